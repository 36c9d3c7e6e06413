/- Amplitudes: which are valid; results. -/
import Derived.Test.YtccbinnlnkpplaaSq
import Derived.Test.YtccbinnlnkpplaaAm2
import Derived.Test.YtccbinnlnkpplaaEq
namespace Go.Proofs.Ytccbinnlnkpplaa
set_option linter.all false
open Go.RowKit

theorem as_hd {w : World} {g t : Nat} {xs : List Nm} {cs : Array Value} (h : Hd w g t cs) (e : cs = (nms xs).toArray) : AS w (some ⟨g, 0, none⟩) (nms xs) :=
  fun _ => ⟨g, 0, rfl, h.lt, fun j _ => by rw [Nat.zero_add, h.cell j, e]; simp⟩
set_option maxRecDepth 100000 in
set_option maxHeartbeats 1000000 in
theorem result_any (z : Nm) (hz : z.Fit 4611686018427387903) (hk : z.k ≤ 1000000) (w : World) : Calls Try.prog 121 #[nmV z] w fun e w' => e = .returned (numV z.mk') ∧ Below w.heap.size w w' := by
  go_enter Try.func121, Try.ntmps121
  refine wk_start ?_
  refine wk_seq ?_
  refine wk_region [1, 1, 0] rfl Kx ?_
  simp only [qy]
  refine Rgn fun g1 => ?_
  simp only [qz]
  refine Rgn fun g2 => ?_
  simp only [qz]
  refine rg_assign ?_
  simp only [qz]
  refine rg_nil (ek_next (wk_seq ?_))
  refine wk_region [0, 1, 0, 0, 0, 1, 1, 0] rfl Kx ?_
  simp only [qy]
  refine rf_loadR (n := 5) rfl rfl rfl Try.underlying139 rfl Kx (fun w hw => Kn.hd0 (Kn.tl hw)) rfl rfl ?_
  simp only [qz]
  apply rg_pure Rx Kx
  case hargs => exact Ax
  case h => exact fun w hw => reduced_any z hz hk w
  case hz => exact Nz
  simp only [qz]
  cases hs : z.nf.small
  · refine rg_move ?_
    simp only [qz]
    refine rf_extract rfl rfl rfl rfl ?_
    simp only [qz]
    refine rf_extract rfl rfl rfl rfl ?_
    simp only [qz]
    refine Rgn fun g3 => ?_
    simp only [qz]
    refine rf_storeR (n := 5) rfl rfl Kx rfl rfl (UpdR.here _ _ _ Nl) Nz ?_
    simp only [qz, Nat.reduceAdd]
    refine rg_assign ?_
    simp only [qz]
    refine rg_nil (ek_next (wk_seq (wk_seq ?_)))
    refine wk_region [0, 0] rfl Kx ?_
    simp only [qy]
    refine rg_move ?_
    simp only [qz]
    refine rf_not rfl rfl rfl ?_
    simp only [qz]
    refine rg_nil (ek_next (wk_cond_t rfl (wk_seq ?_)))
    refine wk_region [0, 1, 0] rfl Kx ?_
    simp only [qy]
    refine rf_build (cs := fun a => #[.int .i64 0, .int .i64 0, .int .i64 0, .int .i64 0, .int .i64 0]) rfl rfl Kx ?_
    simp only [qz]
    refine rf_storeR (n := 5) rfl rfl Kx rfl rfl (UpdR.there _ (UpdR.here _ _ _ Nl)) Nz ?_
    simp only [qz, Nat.reduceAdd]
    refine rg_assign ?_
    simp only [qz]
    refine rg_nil (ek_next (wk_ret (ek_then_ret ?_)))
    refine ek_ret (fun w hw => ⟨rfl, _, run_results2 rfl rfl (Kn.hd0 (Kn.tl hw)) Try.underlying45 rfl Kx, ?_⟩)
    (try simp only [qz])
    exact ⟨by (unfold Nm.mk' numV; rw [if_neg (by rw [hs]; decide)]; rfl), hw.below⟩
  refine rg_move ?_
  simp only [qz]
  refine rf_extract rfl rfl rfl rfl ?_
  simp only [qz]
  refine rf_extract rfl rfl rfl rfl ?_
  simp only [qz]
  refine Rgn fun g4 => ?_
  simp only [qz]
  refine rf_storeR (n := 5) rfl rfl Kx rfl rfl (UpdR.here _ _ _ Nl) Nz ?_
  simp only [qz, Nat.reduceAdd]
  refine rg_assign ?_
  simp only [qz]
  refine rg_nil (ek_next (wk_seq (wk_seq ?_)))
  refine wk_region [0, 0] rfl Kx ?_
  simp only [qy]
  refine rg_move ?_
  simp only [qz]
  refine rf_not rfl rfl rfl ?_
  simp only [qz]
  refine rg_nil (ek_next (wk_cond_f rfl (wk_skip (ek_next (wk_seq ?_)))))
  refine wk_region [0, 1, 0] rfl Kx ?_
  simp only [qy]
  refine rf_loadR (n := 5) rfl rfl rfl Try.underlying45 rfl Kx (fun w hw => Kn.hd0 hw) rfl rfl ?_
  simp only [qz]
  refine rf_storeR (n := 5) rfl rfl Kx rfl rfl (UpdR.there _ (UpdR.here _ _ _ Nl)) Nz ?_
  simp only [qz, Nat.reduceAdd]
  refine rg_assign ?_
  simp only [qz]
  refine rg_nil (ek_next (wk_ret ?_))
  refine ek_ret (fun w hw => ⟨rfl, _, run_results2 rfl rfl (Kn.hd0 (Kn.tl hw)) Try.underlying45 rfl Kx, ?_⟩)
  (try simp only [qz])
  exact ⟨by (unfold Nm.mk' numV; rw [if_pos hs]), hw.below⟩

theorem okB_not {z : Nm} (h : ¬ z.Ok) : z.okB = false := by
  cases hb : z.okB with
  | false => rfl
  | true => exact absurd (okB_iff.1 hb) h
theorem okB_yes {z : Nm} (h : z.Ok) : z.okB = true := okB_iff.2 h
theorem okB_last {z : Nm} (h0 : 0 ≤ z.k) (h1 : z.k ≤ 40) (hf : z.Fit 1000000000) : z.okB = decide (z.nf = z) := by
  rw [Bool.eq_iff_iff, okB_iff, decide_eq_true_eq, nf_self_iff h0]
  exact ⟨fun h => h.form, fun h => ⟨hf, h0, h1, h⟩⟩
set_option maxRecDepth 100000 in
set_option maxHeartbeats 1000000 in
theorem amvalid_any (z : Nm) (w : World) : Calls Try.prog 118 #[nmV z] w fun e w' => e = .returned (.bool z.okB) ∧ Below w.heap.size w w' := by
  go_enter Try.func118, Try.ntmps118
  refine wk_start ?_
  refine wk_seq ?_
  refine wk_region [1, 0] rfl Kx ?_
  simp only [qy]
  refine Rgn fun g1 => ?_
  simp only [qz]
  refine rg_assign ?_
  simp only [qz]
  refine rg_nil (ek_next (wk_seq (wk_seq ?_)))
  refine wk_region [0, 0, 0, 0, 0, 0, 0, 0] rfl Kx ?_
  simp only [qy]
  refine rf_field (n := 0) (j := 4) rfl rfl rfl Try.underlying45 rfl Kx rfl ?_
  simp only [qz]
  refine rf_load rfl rfl rfl Try.underlying3 rfl (fun w hw => (Kn.hd0 hw).at rfl) ?_
  simp only [qz]
  refine rfb_lss rfl rfl rfl rfl ?_
  intro x h1
  cases x
  · (try simp only [qd, ne_eq] at h1)
    simp only [qz]
    refine rg_move ?_
    simp only [qz]
    refine rf_field (n := 0) (j := 4) rfl rfl rfl Try.underlying45 rfl Kx rfl ?_
    simp only [qz]
    refine rf_load rfl rfl rfl Try.underlying3 rfl (fun w hw => (Kn.hd0 hw).at rfl) ?_
    simp only [qz]
    refine rfb_gtr rfl rfl rfl rfl ?_
    intro x h2
    cases x
    · (try simp only [qd, ne_eq] at h2)
      simp only [qz]
      refine rf_pick rfl rfl rfl ?_
      simp only [qz]
      refine rg_nil (ek_next (wk_cond_f rfl (wk_skip (ek_next (wk_seq (wk_seq ?_))))))
      refine wk_region [0, 0, 0] rfl Kx ?_
      simp only [qy]
      refine rf_field (n := 3) (j := 0) rfl rfl rfl Try.underlying45 rfl Kx rfl ?_
      simp only [qz]
      refine rf_loadR (n := 4) rfl rfl rfl Try.underlying43 rfl Kx (fun w hw => Kn.hd0 hw) rfl rfl ?_
      simp only [qz]
      refine rg_move ?_
      simp only [qz]
      refine rg_nil (ek_next (wk_block ?_))
      refine wk_unroll 4 ?_
      refine wk_seq ?_
      refine wk_region [0] rfl Kx ?_
      simp only [qy]
      refine rf_lss (b := true) rfl rfl rfl rfl (by decide) ?_
      simp only [qz]
      refine rg_nil (ek_next (wk_seq (wk_cond_t rfl (wk_skip (ek_next (wk_seq (wk_block (wk_seq ?_))))))))
      refine wk_region [0, 0] rfl Kx ?_
      simp only [qy]
      apply rg_soft
      case hy => (intro w hw; go_simp; (try go_bits); exact Yld.mk _ _)
      simp only [qz]
      refine rg_assign ?_
      simp only [qz]
      refine rg_nil (ek_next (wk_seq ?_))
      refine wk_region [0, 0, 0, 0, 0, 0] rfl Kx ?_
      simp only [qy]
      refine rg_move ?_
      simp only [qz]
      refine rfb_lss rfl rfl rfl rfl ?_
      intro x h3
      cases x
      · (try simp only [qd, ne_eq] at h3)
        simp only [qz]
        refine rg_move ?_
        simp only [qz]
        apply rg_soft_g
        case hg => rfl
        case hy => (intro w hw; go_simp; (try go_bits); exact Yld.mk _ _)
        simp only [qz]
        refine rfb_gtr rfl rfl rfl rfl ?_
        intro x h4
        cases x
        · (try simp only [qd, ne_eq] at h4)
          simp only [qz]
          refine rf_pick rfl rfl rfl ?_
          simp only [qz]
          refine rg_nil (ek_next (wk_cond_f rfl (wk_skip (ek_block (ek_next ?_)))))
          refine wk_region [0, 0] rfl Kx ?_
          simp only [qy]
          refine rf_add (r := 1) rfl rfl rfl rfl (by decide) ?_
          simp only [qz]
          refine rg_move ?_
          simp only [qz]
          refine rg_nil (ek_again (wk_seq ?_))
          refine wk_region [0] rfl Kx ?_
          simp only [qy]
          refine rf_lss (b := true) rfl rfl rfl rfl (by decide) ?_
          simp only [qz]
          refine rg_nil (ek_next (wk_seq (wk_cond_t rfl (wk_skip (ek_next (wk_seq (wk_block (wk_seq ?_))))))))
          refine wk_region [0, 0] rfl Kx ?_
          simp only [qy]
          apply rg_soft
          case hy => (intro w hw; go_simp; (try go_bits); exact Yld.mk _ _)
          simp only [qz]
          refine rg_assign ?_
          simp only [qz]
          refine rg_nil (ek_next (wk_seq ?_))
          refine wk_region [0, 0, 0, 0, 0, 0] rfl Kx ?_
          simp only [qy]
          refine rg_move ?_
          simp only [qz]
          refine rfb_lss rfl rfl rfl rfl ?_
          intro x h5
          cases x
          · (try simp only [qd, ne_eq] at h5)
            simp only [qz]
            refine rg_move ?_
            simp only [qz]
            apply rg_soft_g
            case hg => rfl
            case hy => (intro w hw; go_simp; (try go_bits); exact Yld.mk _ _)
            simp only [qz]
            refine rfb_gtr rfl rfl rfl rfl ?_
            intro x h6
            cases x
            · (try simp only [qd, ne_eq] at h6)
              simp only [qz]
              refine rf_pick rfl rfl rfl ?_
              simp only [qz]
              refine rg_nil (ek_next (wk_cond_f rfl (wk_skip (ek_block (ek_next ?_)))))
              refine wk_region [0, 0] rfl Kx ?_
              simp only [qy]
              refine rf_add (r := 2) rfl rfl rfl rfl (by decide) ?_
              simp only [qz]
              refine rg_move ?_
              simp only [qz]
              refine rg_nil (ek_again (wk_seq ?_))
              refine wk_region [0] rfl Kx ?_
              simp only [qy]
              refine rf_lss (b := true) rfl rfl rfl rfl (by decide) ?_
              simp only [qz]
              refine rg_nil (ek_next (wk_seq (wk_cond_t rfl (wk_skip (ek_next (wk_seq (wk_block (wk_seq ?_))))))))
              refine wk_region [0, 0] rfl Kx ?_
              simp only [qy]
              apply rg_soft
              case hy => (intro w hw; go_simp; (try go_bits); exact Yld.mk _ _)
              simp only [qz]
              refine rg_assign ?_
              simp only [qz]
              refine rg_nil (ek_next (wk_seq ?_))
              refine wk_region [0, 0, 0, 0, 0, 0] rfl Kx ?_
              simp only [qy]
              refine rg_move ?_
              simp only [qz]
              refine rfb_lss rfl rfl rfl rfl ?_
              intro x h7
              cases x
              · (try simp only [qd, ne_eq] at h7)
                simp only [qz]
                refine rg_move ?_
                simp only [qz]
                apply rg_soft_g
                case hg => rfl
                case hy => (intro w hw; go_simp; (try go_bits); exact Yld.mk _ _)
                simp only [qz]
                refine rfb_gtr rfl rfl rfl rfl ?_
                intro x h8
                cases x
                · (try simp only [qd, ne_eq] at h8)
                  simp only [qz]
                  refine rf_pick rfl rfl rfl ?_
                  simp only [qz]
                  refine rg_nil (ek_next (wk_cond_f rfl (wk_skip (ek_block (ek_next ?_)))))
                  refine wk_region [0, 0] rfl Kx ?_
                  simp only [qy]
                  refine rf_add (r := 3) rfl rfl rfl rfl (by decide) ?_
                  simp only [qz]
                  refine rg_move ?_
                  simp only [qz]
                  refine rg_nil (ek_again (wk_seq ?_))
                  refine wk_region [0] rfl Kx ?_
                  simp only [qy]
                  refine rf_lss (b := true) rfl rfl rfl rfl (by decide) ?_
                  simp only [qz]
                  refine rg_nil (ek_next (wk_seq (wk_cond_t rfl (wk_skip (ek_next (wk_seq (wk_block (wk_seq ?_))))))))
                  refine wk_region [0, 0] rfl Kx ?_
                  simp only [qy]
                  apply rg_soft
                  case hy => (intro w hw; go_simp; (try go_bits); exact Yld.mk _ _)
                  simp only [qz]
                  refine rg_assign ?_
                  simp only [qz]
                  refine rg_nil (ek_next (wk_seq ?_))
                  refine wk_region [0, 0, 0, 0, 0, 0] rfl Kx ?_
                  simp only [qy]
                  refine rg_move ?_
                  simp only [qz]
                  refine rfb_lss rfl rfl rfl rfl ?_
                  intro x h9
                  cases x
                  · (try simp only [qd, ne_eq] at h9)
                    simp only [qz]
                    refine rg_move ?_
                    simp only [qz]
                    apply rg_soft_g
                    case hg => rfl
                    case hy => (intro w hw; go_simp; (try go_bits); exact Yld.mk _ _)
                    simp only [qz]
                    refine rfb_gtr rfl rfl rfl rfl ?_
                    intro x h10
                    cases x
                    · (try simp only [qd, ne_eq] at h10)
                      simp only [qz]
                      refine rf_pick rfl rfl rfl ?_
                      simp only [qz]
                      refine rg_nil (ek_next (wk_cond_f rfl (wk_skip (ek_block (ek_next ?_)))))
                      refine wk_region [0, 0] rfl Kx ?_
                      simp only [qy]
                      refine rf_add (r := 4) rfl rfl rfl rfl (by decide) ?_
                      simp only [qz]
                      refine rg_move ?_
                      simp only [qz]
                      refine rg_nil (ek_again (wk_seq ?_))
                      refine wk_region [0] rfl Kx ?_
                      simp only [qy]
                      refine rf_lss (b := false) rfl rfl rfl rfl (by decide) ?_
                      simp only [qz]
                      refine rg_nil (ek_next (wk_seq (wk_cond_f rfl (wk_exit (ek_then_exit (ek_then_exit (ek_block_exit (ek_next (wk_seq ?_)))))))))
                      refine wk_region [0, 1, 0, 0, 0, 1, 1, 0] rfl Kx ?_
                      simp only [qy]
                      refine rf_loadR (n := 5) rfl rfl rfl Try.underlying45 rfl Kx (fun w hw => Kn.hd0 hw) rfl rfl ?_
                      simp only [qz]
                      apply rg_pure Rx Kx
                      case hargs => exact Ax
                      case h => exact fun w hw => reduced_any z ⟨by omega, by omega, by omega, by omega, by omega, by omega, by omega, by omega⟩ Ox w
                      case hz => exact Nz
                      simp only [qz]
                      refine rg_move ?_
                      simp only [qz]
                      refine rf_extract rfl rfl rfl rfl ?_
                      simp only [qz]
                      refine rf_extract rfl rfl rfl rfl ?_
                      simp only [qz]
                      refine Rgn fun g2 => ?_
                      simp only [qz]
                      refine rf_storeR (n := 5) rfl rfl Kx rfl rfl (UpdR.here _ _ _ Nl) Nz ?_
                      simp only [qz, Nat.reduceAdd]
                      refine rg_assign ?_
                      simp only [qz]
                      refine rg_nil (ek_next (wk_seq ?_))
                      refine wk_region [0, 0, 0, 0] rfl Kx ?_
                      simp only [qy]
                      refine rf_loadR (n := 5) rfl rfl rfl Try.underlying45 rfl Kx (fun w hw => Kn.hd0 hw) rfl rfl ?_
                      simp only [qz]
                      refine rf_loadR (n := 5) rfl rfl rfl Try.underlying45 rfl Kx (fun w hw => Kn.hd0 (Kn.tl hw)) rfl rfl ?_
                      simp only [qz]
                      refine rf_eqN (u := z.nf) (v := z) rfl rfl rfl rfl ?_
                      simp only [qz]
                      refine rg_assign ?_
                      simp only [qz]
                      refine rg_nil (ek_next (wk_ret ?_))
                      refine ek_ret (fun w hw => ⟨rfl, _, res_t _ rfl, ?_⟩)
                      (try simp only [qz])
                      refine ⟨?_, hw.below⟩
                      rw [okB_last (z := z) Ox Ox ⟨by omega, by omega, by omega, by omega, by omega, by omega, by omega, by omega⟩]
                    (try simp only [qd, ne_eq] at h10)
                    simp only [qz]
                    refine rf_pick rfl rfl rfl ?_
                    simp only [qz]
                    refine rg_nil (ek_next (wk_cond_t rfl (wk_seq ?_)))
                    refine wk_region [0] rfl Kx ?_
                    simp only [qy]
                    refine rg_assign ?_
                    simp only [qz]
                    refine rg_nil (ek_next (wk_ret (ek_block_ret (ek_then_ret (ek_then_ret (ek_block_ret (ek_then_ret ?_)))))))
                    refine ek_ret (fun w hw => ⟨rfl, _, res_t _ rfl, ?_⟩)
                    (try simp only [qz])
                    exact ⟨by rw [okB_not (z := z) (fun h => by obtain ⟨⟨h1, h2, h3, h4, h5, h6, h7, h8⟩, h9, h10, h11⟩ := h; omega)], hw.below⟩
                  (try simp only [qd, ne_eq] at h9)
                  simp only [qz]
                  refine rg_move ?_
                  simp only [qz]
                  refine rg_skip Rx ?_
                  simp only [qz]
                  refine rg_skip Rx ?_
                  simp only [qz]
                  refine rf_pick rfl rfl rfl ?_
                  simp only [qz]
                  refine rg_nil (ek_next (wk_cond_t rfl (wk_seq ?_)))
                  refine wk_region [0] rfl Kx ?_
                  simp only [qy]
                  refine rg_assign ?_
                  simp only [qz]
                  refine rg_nil (ek_next (wk_ret (ek_block_ret (ek_then_ret (ek_then_ret (ek_block_ret (ek_then_ret ?_)))))))
                  refine ek_ret (fun w hw => ⟨rfl, _, res_t _ rfl, ?_⟩)
                  (try simp only [qz])
                  exact ⟨by rw [okB_not (z := z) (fun h => by obtain ⟨⟨h1, h2, h3, h4, h5, h6, h7, h8⟩, h9, h10, h11⟩ := h; omega)], hw.below⟩
                (try simp only [qd, ne_eq] at h8)
                simp only [qz]
                refine rf_pick rfl rfl rfl ?_
                simp only [qz]
                refine rg_nil (ek_next (wk_cond_t rfl (wk_seq ?_)))
                refine wk_region [0] rfl Kx ?_
                simp only [qy]
                refine rg_assign ?_
                simp only [qz]
                refine rg_nil (ek_next (wk_ret (ek_block_ret (ek_then_ret (ek_then_ret (ek_block_ret (ek_then_ret ?_)))))))
                refine ek_ret (fun w hw => ⟨rfl, _, res_t _ rfl, ?_⟩)
                (try simp only [qz])
                exact ⟨by rw [okB_not (z := z) (fun h => by obtain ⟨⟨h1, h2, h3, h4, h5, h6, h7, h8⟩, h9, h10, h11⟩ := h; omega)], hw.below⟩
              (try simp only [qd, ne_eq] at h7)
              simp only [qz]
              refine rg_move ?_
              simp only [qz]
              refine rg_skip Rx ?_
              simp only [qz]
              refine rg_skip Rx ?_
              simp only [qz]
              refine rf_pick rfl rfl rfl ?_
              simp only [qz]
              refine rg_nil (ek_next (wk_cond_t rfl (wk_seq ?_)))
              refine wk_region [0] rfl Kx ?_
              simp only [qy]
              refine rg_assign ?_
              simp only [qz]
              refine rg_nil (ek_next (wk_ret (ek_block_ret (ek_then_ret (ek_then_ret (ek_block_ret (ek_then_ret ?_)))))))
              refine ek_ret (fun w hw => ⟨rfl, _, res_t _ rfl, ?_⟩)
              (try simp only [qz])
              exact ⟨by rw [okB_not (z := z) (fun h => by obtain ⟨⟨h1, h2, h3, h4, h5, h6, h7, h8⟩, h9, h10, h11⟩ := h; omega)], hw.below⟩
            (try simp only [qd, ne_eq] at h6)
            simp only [qz]
            refine rf_pick rfl rfl rfl ?_
            simp only [qz]
            refine rg_nil (ek_next (wk_cond_t rfl (wk_seq ?_)))
            refine wk_region [0] rfl Kx ?_
            simp only [qy]
            refine rg_assign ?_
            simp only [qz]
            refine rg_nil (ek_next (wk_ret (ek_block_ret (ek_then_ret (ek_then_ret (ek_block_ret (ek_then_ret ?_)))))))
            refine ek_ret (fun w hw => ⟨rfl, _, res_t _ rfl, ?_⟩)
            (try simp only [qz])
            exact ⟨by rw [okB_not (z := z) (fun h => by obtain ⟨⟨h1, h2, h3, h4, h5, h6, h7, h8⟩, h9, h10, h11⟩ := h; omega)], hw.below⟩
          (try simp only [qd, ne_eq] at h5)
          simp only [qz]
          refine rg_move ?_
          simp only [qz]
          refine rg_skip Rx ?_
          simp only [qz]
          refine rg_skip Rx ?_
          simp only [qz]
          refine rf_pick rfl rfl rfl ?_
          simp only [qz]
          refine rg_nil (ek_next (wk_cond_t rfl (wk_seq ?_)))
          refine wk_region [0] rfl Kx ?_
          simp only [qy]
          refine rg_assign ?_
          simp only [qz]
          refine rg_nil (ek_next (wk_ret (ek_block_ret (ek_then_ret (ek_then_ret (ek_block_ret (ek_then_ret ?_)))))))
          refine ek_ret (fun w hw => ⟨rfl, _, res_t _ rfl, ?_⟩)
          (try simp only [qz])
          exact ⟨by rw [okB_not (z := z) (fun h => by obtain ⟨⟨h1, h2, h3, h4, h5, h6, h7, h8⟩, h9, h10, h11⟩ := h; omega)], hw.below⟩
        (try simp only [qd, ne_eq] at h4)
        simp only [qz]
        refine rf_pick rfl rfl rfl ?_
        simp only [qz]
        refine rg_nil (ek_next (wk_cond_t rfl (wk_seq ?_)))
        refine wk_region [0] rfl Kx ?_
        simp only [qy]
        refine rg_assign ?_
        simp only [qz]
        refine rg_nil (ek_next (wk_ret (ek_block_ret (ek_then_ret (ek_then_ret (ek_block_ret (ek_then_ret ?_)))))))
        refine ek_ret (fun w hw => ⟨rfl, _, res_t _ rfl, ?_⟩)
        (try simp only [qz])
        exact ⟨by rw [okB_not (z := z) (fun h => by obtain ⟨⟨h1, h2, h3, h4, h5, h6, h7, h8⟩, h9, h10, h11⟩ := h; omega)], hw.below⟩
      (try simp only [qd, ne_eq] at h3)
      simp only [qz]
      refine rg_move ?_
      simp only [qz]
      refine rg_skip Rx ?_
      simp only [qz]
      refine rg_skip Rx ?_
      simp only [qz]
      refine rf_pick rfl rfl rfl ?_
      simp only [qz]
      refine rg_nil (ek_next (wk_cond_t rfl (wk_seq ?_)))
      refine wk_region [0] rfl Kx ?_
      simp only [qy]
      refine rg_assign ?_
      simp only [qz]
      refine rg_nil (ek_next (wk_ret (ek_block_ret (ek_then_ret (ek_then_ret (ek_block_ret (ek_then_ret ?_)))))))
      refine ek_ret (fun w hw => ⟨rfl, _, res_t _ rfl, ?_⟩)
      (try simp only [qz])
      exact ⟨by rw [okB_not (z := z) (fun h => by obtain ⟨⟨h1, h2, h3, h4, h5, h6, h7, h8⟩, h9, h10, h11⟩ := h; omega)], hw.below⟩
    (try simp only [qd, ne_eq] at h2)
    simp only [qz]
    refine rf_pick rfl rfl rfl ?_
    simp only [qz]
    refine rg_nil (ek_next (wk_cond_t rfl (wk_seq ?_)))
    refine wk_region [0] rfl Kx ?_
    simp only [qy]
    refine rg_assign ?_
    simp only [qz]
    refine rg_nil (ek_next (wk_ret (ek_then_ret ?_)))
    refine ek_ret (fun w hw => ⟨rfl, _, res_t _ rfl, ?_⟩)
    (try simp only [qz])
    exact ⟨by rw [okB_not (z := z) (fun h => by obtain ⟨⟨h1, h2, h3, h4, h5, h6, h7, h8⟩, h9, h10, h11⟩ := h; omega)], hw.below⟩
  (try simp only [qd, ne_eq] at h1)
  simp only [qz]
  refine rg_move ?_
  simp only [qz]
  refine rg_skip Rx ?_
  simp only [qz]
  refine rg_skip Rx ?_
  simp only [qz]
  refine rg_skip Rx ?_
  simp only [qz]
  refine rf_pick rfl rfl rfl ?_
  simp only [qz]
  refine rg_nil (ek_next (wk_cond_t rfl (wk_seq ?_)))
  refine wk_region [0] rfl Kx ?_
  simp only [qy]
  refine rg_assign ?_
  simp only [qz]
  refine rg_nil (ek_next (wk_ret (ek_then_ret ?_)))
  refine ek_ret (fun w hw => ⟨rfl, _, res_t _ rfl, ?_⟩)
  (try simp only [qz])
  exact ⟨by rw [okB_not (z := z) (fun h => by obtain ⟨⟨h1, h2, h3, h4, h5, h6, h7, h8⟩, h9, h10, h11⟩ := h; omega)], hw.below⟩

end Go.Proofs.Ytccbinnlnkpplaa
