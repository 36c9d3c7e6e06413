/- Several texts in one. -/
import Derived.Test.YtjeijnjaleldkaaSq
import Derived.Test.YtjeijnjaleldkaaMgC
import Derived.Test.YtjeijnjaleldkaaMgA
namespace Go.Proofs.Ytjeijnjaleldkaa
set_option linter.all false
open Go.RowKit

set_option maxRecDepth 100000 in
set_option maxHeartbeats 1000000 in
theorem lunitary_any (n : Int) (xs : List Nm) (a : Option Addr) (c : Nat) (hl : xs.length ≤ 1000000) (hv : validB n xs = true) (hu : unB n xs = true) (w : World) (hA : AS w a (nms xs)) : Calls Try.prog 62 #[.agg #[.int .i64 n, .slice a xs.length c]] w fun e w' => e = .returned (.bool true) ∧ Below w.heap.size w w' := by
  go_enter Try.func62, Try.ntmps62
  refine wk_start ?_
  refine wk_seq ?_
  refine wk_region [1, 0] rfl Kx ?_
  simp only [qy]
  refine Rgn fun g1 => ?_
  simp only [qz]
  refine rg_assign ?_
  simp only [qz]
  refine rg_nil (ek_next (wk_seq ?_))
  refine wk_region [0, 1, 0, 0, 0, 0, 0] rfl Kx ?_
  simp only [qy]
  refine rf_loadR (n := 2) rfl rfl rfl Try.underlying24 rfl Kx (fun w hw => Kn.hd0 hw) rfl rfl ?_
  simp only [qz]
  apply rg_pure Rx Kx
  case hargs => exact Ax
  case h => exact fun w hw => by have := unitary_any n xs a c hl w (hA.kn0 hw); rw [hv, hu] at this; exact this
  case hz => exact Nz
  simp only [qz]
  refine rg_move ?_
  simp only [qz]
  refine rf_extract rfl rfl rfl rfl ?_
  simp only [qz]
  refine rf_extract rfl rfl rfl rfl ?_
  simp only [qz]
  refine rg_assign ?_
  simp only [qz]
  refine rg_assign ?_
  simp only [qz]
  refine rg_nil (ek_next (wk_seq ?_))
  refine wk_region [0, 0, 0, 0, 0, 0] rfl Kx ?_
  simp only [qy]
  refine rg_move ?_
  simp only [qz]
  refine rg_move ?_
  simp only [qz]
  apply rg_soft_g
  case hg => rfl
  case hy => (intro w hw; go_simp; (try go_bits); exact Yld.mk _ _)
  simp only [qz]
  refine rf_eql (b := true) rfl rfl rfl rfl (by decide) ?_
  simp only [qz]
  refine rf_pick rfl rfl rfl ?_
  simp only [qz]
  refine rg_assign ?_
  simp only [qz]
  refine rg_nil (ek_next (wk_ret ?_))
  refine ek_ret (fun w hw => ⟨rfl, _, res_t _ rfl, ?_⟩)
  (try simp only [qz])
  first | exact ⟨rfl, hw.below⟩ | exact ⟨trivial, hw.below⟩ | exact hw.below

theorem rSame_eq2 {n n' : Int} {xs ys : List Nm} (a a' : Option Addr) (c c' : Nat) (hn : n = n') (hx : xs = ys) (hl : xs.length ≤ 1000000) (w : World) (hA : AS w a (nms xs)) (hB : AS w a' (nms ys)) :
    Calls Try.prog 26 #[.agg #[.int .i64 n, .slice a xs.length c], .agg #[.int .i64 n', .slice a' ys.length c']] w fun e w' => e = .returned (.bool true) ∧ Below w.heap.size w w' := by
  subst hn hx
  exact rSame_eq n xs a a' c c' hl w hA hB
theorem lunitary_yes {K : Nat} {r : LR} (h : UnL K r) (a : Option Addr) (c : Nat) (w : World) (hA : AS w a (nms (rL r))) : Calls Try.prog 62 #[.agg #[.int .i64 (rN K r), .slice a (rL r).length c]] w fun e w' => e = .returned (.bool true) ∧ Below w.heap.size w w' := by
  exact lunitary_any (rN K r) (rL r) a c h.len h.1 h.2 w hA
set_option maxRecDepth 100000 in
set_option maxHeartbeats 1000000 in
theorem matrixAlgebra_any (n m p : Int) (xs ys zs : List Nm) (a a' b' : Option Addr) (c c' d' : Nat) (w : World) (hA : AS w a (nms xs)) (hB : AS w a' (nms ys)) (hC : AS w b' (nms zs)) : Calls Try.prog 14 #[.agg #[.int .i64 n, .slice a xs.length c], .agg #[.int .i64 m, .slice a' ys.length c'], .agg #[.int .i64 p, .slice b' zs.length d']] w fun e w' => e = .returned (.bool true) ∧ Below w.heap.size w w' := by
  go_enter Try.func14, Try.ntmps14
  refine wk_start ?_
  refine wk_seq ?_
  refine wk_region [1, 1, 1, 0] rfl Kx ?_
  simp only [qy]
  refine Rgn fun g1 => ?_
  simp only [qz]
  refine Rgn fun g2 => ?_
  simp only [qz]
  refine Rgn fun g3 => ?_
  simp only [qz]
  refine rg_assign ?_
  simp only [qz]
  refine rg_nil (ek_next (wk_seq (wk_seq ?_)))
  refine wk_region [0, 1, 0, 0, 1, 0, 0, 0, 1, 0] rfl Kx ?_
  simp only [qy]
  refine rf_loadR (n := 2) rfl rfl rfl Try.underlying24 rfl Kx (fun w hw => Kn.hd0 (Kn.tl (Kn.tl hw))) rfl rfl ?_
  simp only [qz]
  apply rg_pureb Rx Kx
  case hargs => exact Ax
  case h => exact fun w hw => wide_any n xs a c w
  case hz => exact Nz
  intro x h1
  cases x
  · (try simp only [qd, ne_eq] at h1)
    simp only [qz]
    have hlx : xs.length ≤ 1000000 := by omega
    refine rg_move ?_
    simp only [qz]
    refine rf_loadR (n := 2) rfl rfl rfl Try.underlying24 rfl Kx (fun w hw => Kn.hd0 (Kn.tl hw)) rfl rfl ?_
    simp only [qz]
    apply rg_pureb Rx Kx
    case hargs => exact Ax
    case h => exact fun w hw => wide_any m ys a' c' w
    case hz => exact Nz
    intro x h2
    cases x
    · (try simp only [qd, ne_eq] at h2)
      simp only [qz]
      have hly : ys.length ≤ 1000000 := by omega
      refine rf_pick rfl rfl rfl ?_
      simp only [qz]
      refine rg_move ?_
      simp only [qz]
      refine rf_loadR (n := 2) rfl rfl rfl Try.underlying24 rfl Kx (fun w hw => Kn.hd0 hw) rfl rfl ?_
      simp only [qz]
      apply rg_pureb Rx Kx
      case hargs => exact Ax
      case h => exact fun w hw => wide_any p zs b' d' w
      case hz => exact Nz
      intro x h3
      cases x
      · (try simp only [qd, ne_eq] at h3)
        simp only [qz]
        have hlz : zs.length ≤ 1000000 := by omega
        refine rf_pick rfl rfl rfl ?_
        simp only [qz]
        refine rg_nil (ek_next (wk_cond_f rfl (wk_skip (ek_next (wk_seq ?_)))))
        refine wk_region [0, 0, 1, 0, 0, 0, 1, 1, 0] rfl Kx ?_
        simp only [qy]
        refine rf_loadR (n := 2) rfl rfl rfl Try.underlying24 rfl Kx (fun w hw => Kn.hd0 (Kn.tl (Kn.tl hw))) rfl rfl ?_
        simp only [qz]
        refine rf_loadR (n := 2) rfl rfl rfl Try.underlying24 rfl Kx (fun w hw => Kn.hd0 (Kn.tl hw)) rfl rfl ?_
        simp only [qz]
        apply rg_retM Rx Kx
        case hargs => exact Ax
        case h => exact fun w hw => mul_any n m xs ys a a' c c' hlx hly w (hA.kn0 hw) (hB.kn0 hw)
        case hz => exact Nz
        intro va4 vc4 u4 hO4
        simp only [qz]
        refine rg_move ?_
        simp only [qz]
        refine rf_extract rfl rfl rfl rfl ?_
        simp only [qz]
        refine rf_extract rfl rfl rfl rfl ?_
        simp only [qz]
        refine Rgn fun g5 => ?_
        simp only [qz]
        refine rf_storeR (n := 2) rfl rfl Kx rfl rfl (UpdR.here _ _ _ Nl) Nz ?_
        simp only [qz, Nat.reduceAdd]
        refine rg_assign ?_
        simp only [qz]
        refine rg_nil (ek_next (wk_seq (wk_seq ?_)))
        refine wk_region [0, 0] rfl Kx ?_
        simp only [qy]
        refine rg_move ?_
        simp only [qz]
        refine rfb_neq rfl rfl rfl rfl ?_
        intro x h4
        cases x
        · (try simp only [qd, ne_eq] at h4)
          simp only [qz]
          have he : rC (mulM n m xs ys) = 0 := by simpa using h4
          clear h4
          have hvd := ag_valid he
          obtain ⟨hd1, hd2, hd3⟩ := ag_dag he
          refine rg_nil (ek_next (wk_cond_f rfl (wk_skip (ek_next (wk_seq ?_)))))
          refine wk_region [0, 1, 0, 0, 0, 1, 1, 0] rfl Kx ?_
          simp only [qy]
          refine rf_loadR (n := 2) rfl rfl rfl Try.underlying24 rfl Kx (fun w hw => Kn.hd0 (Kn.tl (Kn.tl (Kn.tlU (Kn.tl hw))))) rfl rfl ?_
          simp only [qz]
          apply rg_retM Rx Kx
          case hargs => exact Ax
          case h => exact fun w hw => mdagger_any n xs a c hlx w (hA.kn0 hw)
          case hz => exact Nz
          intro va6 vc6 u6 hO6
          simp only [qz]
          refine rg_move ?_
          simp only [qz]
          refine rf_extract rfl rfl rfl rfl ?_
          simp only [qz]
          refine rf_extract rfl rfl rfl rfl ?_
          simp only [qz]
          refine Rgn fun g7 => ?_
          simp only [qz]
          refine rf_storeR (n := 2) rfl rfl Kx rfl rfl (UpdR.here _ _ _ Nl) Nz ?_
          simp only [qz, Nat.reduceAdd]
          refine rg_assign ?_
          simp only [qz]
          refine rg_nil (ek_next (wk_seq ?_))
          refine wk_region [0, 1, 0, 0, 0, 1, 1, 0] rfl Kx ?_
          simp only [qy]
          refine rf_loadR (n := 2) rfl rfl rfl Try.underlying24 rfl Kx (fun w hw => Kn.hd0 (Kn.tl (Kn.tlU (Kn.tl (Kn.tlU (Kn.tl hw)))))) rfl rfl ?_
          simp only [qz]
          apply rg_retM Rx Kx
          case hargs => exact Ax
          case h => exact fun w hw => mdagger_any m ys a' c' hly w (hB.kn0 hw)
          case hz => exact Nz
          intro va8 vc8 u8 hO8
          simp only [qz]
          refine rg_move ?_
          simp only [qz]
          refine rf_extract rfl rfl rfl rfl ?_
          simp only [qz]
          refine rf_extract rfl rfl rfl rfl ?_
          simp only [qz]
          refine Rgn fun g9 => ?_
          simp only [qz]
          refine rf_storeR (n := 2) rfl rfl Kx rfl rfl (UpdR.here _ _ _ Nl) Nz ?_
          simp only [qz, Nat.reduceAdd]
          refine rg_assign ?_
          simp only [qz]
          refine rg_nil (ek_next (wk_seq ?_))
          refine wk_region [0, 0, 1, 0, 0, 0, 1, 1, 0] rfl Kx ?_
          simp only [qy]
          refine rf_loadR (n := 2) rfl rfl rfl Try.underlying24 rfl Kx (fun w hw => Kn.hd0 hw) rfl rfl ?_
          simp only [qz]
          refine rf_loadR (n := 2) rfl rfl rfl Try.underlying24 rfl Kx (fun w hw => Kn.hd0 (Kn.tlU (Kn.tl hw))) rfl rfl ?_
          simp only [qz]
          apply rg_retM Rx Kx
          case hargs => exact Ax
          case h => exact fun w hw => mul_any (rN (m).toNat (mapM dagF m ys)) (rN (n).toNat (mapM dagF n xs)) (rL (mapM dagF m ys)) (rL (mapM dagF n xs)) va8 va6 vc8 vc6 (by have := (mapM_len7 _ _ _ : (rL (mapM dagF m ys)).length ≤ 36); omega) (by have := (mapM_len7 _ _ _ : (rL (mapM dagF n xs)).length ≤ 36); omega) w (OwnN.asN hO8 (hw.perm (perm_atU (l := [_]) (u := u8) (List.Perm.refl _)))) (OwnN.asN hO6 (hw.perm ((((((((List.Perm.refl _).cons _).trans (List.perm_middle (l₁ := u6)).symm).append_left _).trans (List.perm_append_comm_assoc u8 u6 _)).cons _).trans (List.perm_middle (l₁ := u6)).symm).trans ((List.Perm.refl _).append_left _))))
          case hz => exact Nz
          intro va10 vc10 u10 hO10
          simp only [qz]
          refine rg_move ?_
          simp only [qz]
          refine rf_extract rfl rfl rfl rfl ?_
          simp only [qz]
          refine rf_extract rfl rfl rfl rfl ?_
          simp only [qz]
          refine Rgn fun g11 => ?_
          simp only [qz]
          refine rf_storeR (n := 2) rfl rfl Kx rfl rfl (UpdR.here _ _ _ Nl) Nz ?_
          simp only [qz, Nat.reduceAdd]
          refine rg_assign ?_
          simp only [qz]
          refine rg_nil (ek_next (wk_seq ?_))
          refine wk_region [0, 1, 0, 0, 0, 1, 1, 0] rfl Kx ?_
          simp only [qy]
          refine rf_loadR (n := 2) rfl rfl rfl Try.underlying24 rfl Kx (fun w hw => Kn.hd0 (Kn.tlU (Kn.tl (Kn.tlU (Kn.tl (Kn.tlU (Kn.tl hw))))))) rfl rfl ?_
          simp only [qz]
          apply rg_retM Rx Kx
          case hargs => exact Ax
          case h => exact fun w hw => mdagger_any (rN (n).toNat (mulM n m xs ys)) (rL (mulM n m xs ys)) va4 vc4 (by have := (mulM_len7 _ _ _ _ : (rL (mulM n m xs ys)).length ≤ 36); omega) w (OwnN.asN hO4 (hw.perm ((((((((((((((((List.Perm.refl _).cons _).trans (List.perm_middle (l₁ := u4)).symm).append_left _).trans (List.perm_append_comm_assoc u6 u4 _)).cons _).trans (List.perm_middle (l₁ := u4)).symm).append_left _).trans (List.perm_append_comm_assoc u8 u4 _)).cons _).trans (List.perm_middle (l₁ := u4)).symm).append_left _).trans (List.perm_append_comm_assoc u10 u4 _)).cons _).trans (List.perm_middle (l₁ := u4)).symm).trans ((List.Perm.refl _).append_left _))))
          case hz => exact Nz
          intro va12 vc12 u12 hO12
          simp only [qz]
          refine rg_move ?_
          simp only [qz]
          refine rf_extract rfl rfl rfl rfl ?_
          simp only [qz]
          refine rf_extract rfl rfl rfl rfl ?_
          simp only [qz]
          refine Rgn fun g13 => ?_
          simp only [qz]
          refine rf_storeR (n := 2) rfl rfl Kx rfl rfl (UpdR.here _ _ _ Nl) Nz ?_
          simp only [qz, Nat.reduceAdd]
          refine rg_assign ?_
          simp only [qz]
          refine rg_nil (ek_next ?_)
          refine wk_cutF [6, 65, 66, 67, 68, 69, 70, 71, 72, 73, 74, 75, 76, 77, 78, 79, 80, 81, 82, 83, 84] (fun f s => s = ((g13, .cells #[.int .i64 (rN (rN (n).toNat (mulM n m xs ys)).toNat (mapM dagF (rN (n).toNat (mulM n m xs ys)) (rL (mulM n m xs ys)))), .slice va12 (rL (mapM dagF (rN (n).toNat (mulM n m xs ys)) (rL (mulM n m xs ys)))).length vc12] 24) :: (u12 ++ ((g11, .cells #[.int .i64 (rN (rN (m).toNat (mapM dagF m ys)).toNat (mulM (rN (m).toNat (mapM dagF m ys)) (rN (n).toNat (mapM dagF n xs)) (rL (mapM dagF m ys)) (rL (mapM dagF n xs)))), .slice va10 (rL (mulM (rN (m).toNat (mapM dagF m ys)) (rN (n).toNat (mapM dagF n xs)) (rL (mapM dagF m ys)) (rL (mapM dagF n xs)))).length vc10] 24) :: (u10 ++ ((g9, .cells #[.int .i64 (rN (m).toNat (mapM dagF m ys)), .slice va8 (rL (mapM dagF m ys)).length vc8] 24) :: (u8 ++ ((g7, .cells #[.int .i64 (rN (n).toNat (mapM dagF n xs)), .slice va6 (rL (mapM dagF n xs)).length vc6] 24) :: (u6 ++ ((g5, .cells #[.int .i64 (rN (n).toNat (mulM n m xs ys)), .slice va4 (rL (mulM n m xs ys)).length vc4] 24) :: (u4 ++ ((g3, .cells #[.int .i64 p, .slice b' zs.length d'] 24) :: ((g2, .cells #[.int .i64 m, .slice a' ys.length c'] 24) :: ((g1, .cells #[.int .i64 n, .slice a xs.length c] 24) :: [])))))))))))))) ?_ ?_
          · refine wk_seq ?_
            refine wk_region [0, 0, 0, 0, 0, 0, 0, 0, 0, 0, 0, 0, 0, 0, 0, 0, 1, 0, 0, 0] rfl Kx ?_
            simp only [qy]
            refine rg_move ?_
            simp only [qz]
            refine rfb_neq rfl rfl rfl rfl ?_
            intro x h5
            obtain rfl : x = false := by (refine h5.symm.trans ?_; exact decide_eq_false Ox)
            clear h5
            simp only [qz]
            refine rg_move ?_
            simp only [qz]
            apply rg_soft_g
            case hg => rfl
            case hy => (intro w hw; go_simp; (try go_bits); exact Yld.mk _ _)
            simp only [qz]
            refine rfb_neq rfl rfl rfl rfl ?_
            intro x h6
            obtain rfl : x = false := by (refine h6.symm.trans ?_; exact decide_eq_false Ox)
            clear h6
            simp only [qz]
            refine rf_pick rfl rfl rfl ?_
            simp only [qz]
            refine rg_move ?_
            simp only [qz]
            apply rg_soft_g
            case hg => rfl
            case hy => (intro w hw; go_simp; (try go_bits); exact Yld.mk _ _)
            simp only [qz]
            refine rfb_neq rfl rfl rfl rfl ?_
            intro x h7
            obtain rfl : x = false := by (refine h7.symm.trans ?_; exact decide_eq_false Ox)
            clear h7
            simp only [qz]
            refine rf_pick rfl rfl rfl ?_
            simp only [qz]
            refine rg_move ?_
            simp only [qz]
            apply rg_soft_g
            case hg => rfl
            case hy => (intro w hw; go_simp; (try go_bits); exact Yld.mk _ _)
            simp only [qz]
            refine rfb_eql rfl rfl rfl rfl ?_
            intro x h8
            cases x
            · (try simp only [qd, ne_eq] at h8)
              simp only [qz]
              apply rg_soft_g
              case hg => rfl
              case hy => (intro w hw; go_simp; (try go_bits); exact Yld.mk _ _)
              simp only [qz]
              refine rg_skip Rx ?_
              simp only [qz]
              refine rg_skip Rx ?_
              simp only [qz]
              refine rg_skip_h Rx Nz ?_
              simp only [qz]
              refine rg_skip Rx ?_
              simp only [qz]
              refine rf_pick rfl rfl rfl ?_
              simp only [qz]
              refine rf_pick rfl rfl rfl ?_
              simp only [qz]
              refine rg_nil (ek_next (wk_cond_f rfl (wk_skip ?_)))
              refine ek_midF Kx ?_
              exact Rx
            (try simp only [qd, ne_eq] at h8)
            simp only [qz]
            have hbk := ag_back he rfl rfl rfl (by simpa using h8)
            apply rg_soft_g
            case hg => rfl
            case hy => (intro w hw; go_simp; (try go_bits); exact Yld.mk _ _)
            simp only [qz]
            refine rf_loadR (n := 2) rfl rfl rfl Try.underlying24 rfl Kx (fun w hw => Kn.hd0 (Kn.tlU (Kn.tl hw))) rfl rfl ?_
            simp only [qz]
            refine rf_loadR (n := 2) rfl rfl rfl Try.underlying24 rfl Kx (fun w hw => Kn.hd0 hw) rfl rfl ?_
            simp only [qz]
            apply rg_pure Rx Kx
            case hargs => exact Ax
            case h => exact fun w hw => rSame_eq2 _ _ _ _ hbk.1 hbk.2 (by have := mulM_len7 (rN (m).toNat (mapM dagF m ys)) (rN (n).toNat (mapM dagF n xs)) (rL (mapM dagF m ys)) (rL (mapM dagF n xs)); omega) w (OwnN.asN hO10 (hw.perm ((((((((List.Perm.refl _).cons _).trans (List.perm_middle (l₁ := u10)).symm).append_left _).trans (List.perm_append_comm_assoc u12 u10 _)).cons _).trans (List.perm_middle (l₁ := u10)).symm).trans ((List.Perm.refl _).append_left _)))) (OwnN.asN hO12 (hw.perm (perm_atU (l := [_]) (u := u12) (List.Perm.refl _))))
            case hz => exact Nz
            simp only [qz]
            refine rf_not rfl rfl rfl ?_
            simp only [qz]
            refine rf_pick rfl rfl rfl ?_
            simp only [qz]
            refine rf_pick rfl rfl rfl ?_
            simp only [qz]
            refine rg_nil (ek_next (wk_cond_f rfl (wk_skip ?_)))
            refine ek_midF Kx ?_
            exact Rx
          rintro f1 s rfl
          simp only [Act.putF, List.foldl_cons, List.foldl_nil, Act.put, Act.eval, q1, q2, q3, q4, q5, q6, q7, q8, q9, q10, q11, q12, q13, q14, q15, q16, q17, q18, Nat.reduceAdd, Bool.not_true, Bool.not_false]
          refine wk_seq ?_
          refine wk_region [0, 0, 1, 0, 0, 0, 1, 1, 0] rfl Kx ?_
          simp only [qy]
          refine rf_loadR (n := 2) rfl rfl rfl Try.underlying24 rfl Kx (fun w hw => Kn.hd0 (Kn.tl (Kn.tlU (Kn.tl (Kn.tlU (Kn.tl (Kn.tlU (Kn.tl (Kn.tlU (Kn.tl (Kn.tlU (Kn.tl hw)))))))))))) rfl rfl ?_
          simp only [qz]
          refine rf_loadR (n := 2) rfl rfl rfl Try.underlying24 rfl Kx (fun w hw => Kn.hd0 (Kn.tlU (Kn.tl (Kn.tlU (Kn.tl (Kn.tlU (Kn.tl (Kn.tlU (Kn.tl (Kn.tlU (Kn.tl hw))))))))))) rfl rfl ?_
          simp only [qz]
          apply rg_retM Rx Kx
          case hargs => exact Ax
          case h => exact fun w hw => mul_any m p ys zs a' b' c' d' hly hlz w (hB.kn0 hw) (hC.kn0 hw)
          case hz => exact Nz
          intro va14 vc14 u14 hO14
          simp only [qz]
          refine rg_move ?_
          simp only [qz]
          refine rf_extract rfl rfl rfl rfl ?_
          simp only [qz]
          refine rf_extract rfl rfl rfl rfl ?_
          simp only [qz]
          refine Rgn fun g15 => ?_
          simp only [qz]
          refine rf_storeR (n := 2) rfl rfl Kx rfl rfl (UpdR.here _ _ _ Nl) Nz ?_
          simp only [qz, Nat.reduceAdd]
          refine rg_assign ?_
          simp only [qz]
          refine rg_nil (ek_next ?_)
          refine wk_cutF [6, 18, 19, 20, 21, 91, 92, 93, 94, 95, 96, 97, 98, 99, 100, 101, 102, 103, 104, 105, 106, 107, 108, 109, 110, 111, 112, 113, 114, 115, 116] (fun f s => s = ((g15, .cells #[.int .i64 (rN (m).toNat (mulM m p ys zs)), .slice va14 (rL (mulM m p ys zs)).length vc14] 24) :: (u14 ++ ((g13, .cells #[.int .i64 (rN (rN (n).toNat (mulM n m xs ys)).toNat (mapM dagF (rN (n).toNat (mulM n m xs ys)) (rL (mulM n m xs ys)))), .slice va12 (rL (mapM dagF (rN (n).toNat (mulM n m xs ys)) (rL (mulM n m xs ys)))).length vc12] 24) :: (u12 ++ ((g11, .cells #[.int .i64 (rN (rN (m).toNat (mapM dagF m ys)).toNat (mulM (rN (m).toNat (mapM dagF m ys)) (rN (n).toNat (mapM dagF n xs)) (rL (mapM dagF m ys)) (rL (mapM dagF n xs)))), .slice va10 (rL (mulM (rN (m).toNat (mapM dagF m ys)) (rN (n).toNat (mapM dagF n xs)) (rL (mapM dagF m ys)) (rL (mapM dagF n xs)))).length vc10] 24) :: (u10 ++ ((g9, .cells #[.int .i64 (rN (m).toNat (mapM dagF m ys)), .slice va8 (rL (mapM dagF m ys)).length vc8] 24) :: (u8 ++ ((g7, .cells #[.int .i64 (rN (n).toNat (mapM dagF n xs)), .slice va6 (rL (mapM dagF n xs)).length vc6] 24) :: (u6 ++ ((g5, .cells #[.int .i64 (rN (n).toNat (mulM n m xs ys)), .slice va4 (rL (mulM n m xs ys)).length vc4] 24) :: (u4 ++ ((g3, .cells #[.int .i64 p, .slice b' zs.length d'] 24) :: ((g2, .cells #[.int .i64 m, .slice a' ys.length c'] 24) :: ((g1, .cells #[.int .i64 n, .slice a xs.length c] 24) :: [])))))))))))))))) ?_ ?_
          · refine wk_seq ?_
            refine wk_region [0, 0] rfl Kx ?_
            simp only [qy]
            refine rg_move ?_
            simp only [qz]
            refine rfb_eql rfl rfl rfl rfl ?_
            intro x h9
            cases x
            · (try simp only [qd, ne_eq] at h9)
              simp only [qz]
              refine rg_nil (ek_next (wk_cond_f rfl (wk_skip ?_)))
              refine ek_midF Kx ?_
              exact Rx
            (try simp only [qd, ne_eq] at h9)
            simp only [qz]
            have he2 : rC (mulM m p ys zs) = 0 := by simpa using h9
            refine rg_nil (ek_next (wk_cond_t rfl (wk_seq ?_)))
            refine wk_region [0, 0, 1, 0, 0, 0, 1, 1, 0] rfl Kx ?_
            simp only [qy]
            refine rf_loadR (n := 2) rfl rfl rfl Try.underlying24 rfl Kx (fun w hw => Kn.hd0 (Kn.tlU (Kn.tl (Kn.tlU (Kn.tl (Kn.tlU (Kn.tl (Kn.tlU (Kn.tl (Kn.tlU (Kn.tl hw))))))))))) rfl rfl ?_
            simp only [qz]
            refine rf_loadR (n := 2) rfl rfl rfl Try.underlying24 rfl Kx (fun w hw => Kn.hd0 (Kn.tlU (Kn.tl (Kn.tlU (Kn.tl (Kn.tlU (Kn.tl (Kn.tlU (Kn.tl (Kn.tlU (Kn.tl (Kn.tlU (Kn.tl hw))))))))))))) rfl rfl ?_
            simp only [qz]
            apply rg_retM Rx Kx
            case hargs => exact Ax
            case h => exact fun w hw => mul_any (rN (n).toNat (mulM n m xs ys)) p (rL (mulM n m xs ys)) zs va4 b' vc4 d' (by have := (mulM_len7 _ _ _ _ : (rL (mulM n m xs ys)).length ≤ 36); omega) hlz w (OwnN.asN hO4 (hw.perm ((((((((((((((((((((((((List.Perm.refl _).cons _).trans (List.perm_middle (l₁ := u4)).symm).append_left _).trans (List.perm_append_comm_assoc u6 u4 _)).cons _).trans (List.perm_middle (l₁ := u4)).symm).append_left _).trans (List.perm_append_comm_assoc u8 u4 _)).cons _).trans (List.perm_middle (l₁ := u4)).symm).append_left _).trans (List.perm_append_comm_assoc u10 u4 _)).cons _).trans (List.perm_middle (l₁ := u4)).symm).append_left _).trans (List.perm_append_comm_assoc u12 u4 _)).cons _).trans (List.perm_middle (l₁ := u4)).symm).append_left _).trans (List.perm_append_comm_assoc u14 u4 _)).cons _).trans (List.perm_middle (l₁ := u4)).symm).trans ((List.Perm.refl _).append_left _)))) (hC.kn0 hw)
            case hz => exact Nz
            intro va16 vc16 u16 hO16
            simp only [qz]
            refine rg_move ?_
            simp only [qz]
            refine rf_extract rfl rfl rfl rfl ?_
            simp only [qz]
            refine rf_extract rfl rfl rfl rfl ?_
            simp only [qz]
            refine Rgn fun g17 => ?_
            simp only [qz]
            refine rf_storeR (n := 2) rfl rfl Kx rfl rfl (UpdR.here _ _ _ Nl) Nz ?_
            simp only [qz, Nat.reduceAdd]
            refine rg_assign ?_
            simp only [qz]
            refine rg_nil (ek_next (wk_seq ?_))
            refine wk_region [0, 0, 1, 0, 0, 0, 1, 1, 0] rfl Kx ?_
            simp only [qy]
            refine rf_loadR (n := 2) rfl rfl rfl Try.underlying24 rfl Kx (fun w hw => Kn.hd0 (Kn.tl (Kn.tl (Kn.tlU (Kn.tl (Kn.tlU (Kn.tl (Kn.tlU (Kn.tl (Kn.tlU (Kn.tl (Kn.tlU (Kn.tl (Kn.tlU (Kn.tl (Kn.tlU (Kn.tl hw))))))))))))))))) rfl rfl ?_
            simp only [qz]
            refine rf_loadR (n := 2) rfl rfl rfl Try.underlying24 rfl Kx (fun w hw => Kn.hd0 (Kn.tlU (Kn.tl hw))) rfl rfl ?_
            simp only [qz]
            apply rg_retM Rx Kx
            case hargs => exact Ax
            case h => exact fun w hw => mul_any n (rN (m).toNat (mulM m p ys zs)) xs (rL (mulM m p ys zs)) a va14 c vc14 hlx (by have := (mulM_len7 _ _ _ _ : (rL (mulM m p ys zs)).length ≤ 36); omega) w (hA.kn0 hw) (OwnN.asN hO14 (hw.perm ((((((((List.Perm.refl _).cons _).trans (List.perm_middle (l₁ := u14)).symm).append_left _).trans (List.perm_append_comm_assoc u16 u14 _)).cons _).trans (List.perm_middle (l₁ := u14)).symm).trans ((List.Perm.refl _).append_left _))))
            case hz => exact Nz
            intro va18 vc18 u18 hO18
            simp only [qz]
            refine rg_move ?_
            simp only [qz]
            refine rf_extract rfl rfl rfl rfl ?_
            simp only [qz]
            refine rf_extract rfl rfl rfl rfl ?_
            simp only [qz]
            refine Rgn fun g19 => ?_
            simp only [qz]
            refine rf_storeR (n := 2) rfl rfl Kx rfl rfl (UpdR.here _ _ _ Nl) Nz ?_
            simp only [qz, Nat.reduceAdd]
            refine rg_assign ?_
            simp only [qz]
            refine rg_nil (ek_next (wk_seq ?_))
            refine wk_region [0, 0, 0, 0, 0, 0, 0, 0, 0, 1, 0, 0] rfl Kx ?_
            simp only [qy]
            refine rg_move ?_
            simp only [qz]
            refine rfb_eql rfl rfl rfl rfl ?_
            intro x h10
            cases x
            · (try simp only [qd, ne_eq] at h10)
              simp only [qz]
              refine rg_move ?_
              simp only [qz]
              refine rg_skip Rx ?_
              simp only [qz]
              refine rg_skip Rx ?_
              simp only [qz]
              refine rf_pick rfl rfl rfl ?_
              simp only [qz]
              refine rg_move ?_
              simp only [qz]
              refine rg_skip Rx ?_
              simp only [qz]
              refine rg_skip Rx ?_
              simp only [qz]
              refine rg_skip_h Rx Nz ?_
              simp only [qz]
              refine rg_skip Rx ?_
              simp only [qz]
              refine rf_pick rfl rfl rfl ?_
              simp only [qz]
              refine rg_nil (ek_next (wk_cond_f rfl (wk_skip ?_)))
              refine ek_sub (sk _ ((sk _ ((sc _ (List.Sublist.append_left (sc _ (List.Sublist.append_left (sc _ (List.Sublist.append_left (sc _ (List.Sublist.append_left (sc _ (List.Sublist.append_left (sc _ (List.Sublist.append_left (sc _ (sc _ (sc _ sn))) _)) _)) _)) _)) _)) _)).trans (List.sublist_append_right _ _))).trans (List.sublist_append_right _ _))) ?_
              refine ek_midF Kx ?_
              exact Rx
            (try simp only [qd, ne_eq] at h10)
            simp only [qz]
            have hlf : rC (mulM (rN (n).toNat (mulM n m xs ys)) p (rL (mulM n m xs ys)) zs) = 0 := by simpa using h10
            refine rg_move ?_
            simp only [qz]
            apply rg_soft_g
            case hg => rfl
            case hy => (intro w hw; go_simp; (try go_bits); exact Yld.mk _ _)
            simp only [qz]
            refine rfb_eql rfl rfl rfl rfl ?_
            intro x h11
            cases x
            · (try simp only [qd, ne_eq] at h11)
              simp only [qz]
              refine rf_pick rfl rfl rfl ?_
              simp only [qz]
              refine rg_move ?_
              simp only [qz]
              refine rg_skip Rx ?_
              simp only [qz]
              refine rg_skip Rx ?_
              simp only [qz]
              refine rg_skip_h Rx Nz ?_
              simp only [qz]
              refine rg_skip Rx ?_
              simp only [qz]
              refine rf_pick rfl rfl rfl ?_
              simp only [qz]
              refine rg_nil (ek_next (wk_cond_f rfl (wk_skip ?_)))
              refine ek_sub (sk _ ((sk _ ((sc _ (List.Sublist.append_left (sc _ (List.Sublist.append_left (sc _ (List.Sublist.append_left (sc _ (List.Sublist.append_left (sc _ (List.Sublist.append_left (sc _ (List.Sublist.append_left (sc _ (sc _ (sc _ sn))) _)) _)) _)) _)) _)) _)).trans (List.sublist_append_right _ _))).trans (List.sublist_append_right _ _))) ?_
              refine ek_midF Kx ?_
              exact Rx
            (try simp only [qd, ne_eq] at h11)
            simp only [qz]
            have has := ag_ass rfl rfl he he2 hlf (by simpa using h11)
            refine rf_pick rfl rfl rfl ?_
            simp only [qz]
            refine rg_move ?_
            simp only [qz]
            refine rf_loadR (n := 2) rfl rfl rfl Try.underlying24 rfl Kx (fun w hw => Kn.hd0 (Kn.tlU (Kn.tl hw))) rfl rfl ?_
            simp only [qz]
            refine rf_loadR (n := 2) rfl rfl rfl Try.underlying24 rfl Kx (fun w hw => Kn.hd0 hw) rfl rfl ?_
            simp only [qz]
            apply rg_pure Rx Kx
            case hargs => exact Ax
            case h => exact fun w hw => rSame_eq2 _ _ _ _ has.1 has.2 (by have := mulM_len7 (rN (n).toNat (mulM n m xs ys)) p (rL (mulM n m xs ys)) zs; omega) w (OwnN.asN hO16 (hw.perm ((((((((List.Perm.refl _).cons _).trans (List.perm_middle (l₁ := u16)).symm).append_left _).trans (List.perm_append_comm_assoc u18 u16 _)).cons _).trans (List.perm_middle (l₁ := u16)).symm).trans ((List.Perm.refl _).append_left _)))) (OwnN.asN hO18 (hw.perm (perm_atU (l := [_]) (u := u18) (List.Perm.refl _))))
            case hz => exact Nz
            simp only [qz]
            refine rf_not rfl rfl rfl ?_
            simp only [qz]
            refine rf_pick rfl rfl rfl ?_
            simp only [qz]
            refine rg_nil (ek_next (wk_cond_f rfl (wk_skip ?_)))
            refine ek_sub (sk _ ((sk _ ((sc _ (List.Sublist.append_left (sc _ (List.Sublist.append_left (sc _ (List.Sublist.append_left (sc _ (List.Sublist.append_left (sc _ (List.Sublist.append_left (sc _ (List.Sublist.append_left (sc _ (sc _ (sc _ sn))) _)) _)) _)) _)) _)) _)).trans (List.sublist_append_right _ _))).trans (List.sublist_append_right _ _))) ?_
            refine ek_midF Kx ?_
            exact Rx
          rintro f2 s rfl
          simp only [Act.putF, List.foldl_cons, List.foldl_nil, Act.put, Act.eval, q1, q2, q3, q4, q5, q6, q7, q8, q9, q10, q11, q12, q13, q14, q15, q16, q17, q18, Nat.reduceAdd, Bool.not_true, Bool.not_false]
          refine wk_seq (wk_seq ?_)
          refine wk_region [0, 1, 0, 0, 0, 1, 0, 0] rfl Kx ?_
          simp only [qy]
          refine rf_loadR (n := 2) rfl rfl rfl Try.underlying24 rfl Kx (fun w hw => Kn.hd0 (Kn.tl (Kn.tl (Kn.tlU (Kn.tl (Kn.tlU (Kn.tl (Kn.tlU (Kn.tl (Kn.tlU (Kn.tl (Kn.tlU (Kn.tl (Kn.tlU (Kn.tl hw))))))))))))))) rfl rfl ?_
          simp only [qz]
          apply rg_pureb Rx Kx
          case hargs => exact Ax
          case h => exact fun w hw => rUn_any n xs a c hvd.1 w (hA.kn0 hw)
          case hz => exact Nz
          intro x h12
          cases x
          · (try simp only [qd, ne_eq] at h12)
            simp only [qz]
            refine rf_not rfl rfl rfl ?_
            simp only [qz]
            refine rg_move ?_
            simp only [qz]
            refine rg_skip Rx ?_
            simp only [qz]
            refine rg_skip_h Rx Nz ?_
            simp only [qz]
            refine rg_skip Rx ?_
            simp only [qz]
            refine rf_pick rfl rfl rfl ?_
            simp only [qz]
            refine rg_nil (ek_next (wk_cond_t rfl (wk_seq ?_)))
            refine wk_region [1, 0] rfl Kx ?_
            simp only [qy]
            apply rg_pure Rx Kx
            case hargs => exact Ax
            case h => exact fun w hw => sane2_any w
            case hz => exact Nz
            simp only [qz]
            refine rg_assign ?_
            simp only [qz]
            refine rg_nil (ek_next (wk_ret (ek_then_ret ?_)))
            refine ek_ret (fun w hw => ⟨rfl, _, res_t _ rfl, ?_⟩)
            (try simp only [qz])
            first | exact ⟨rfl, hw.below⟩ | exact ⟨trivial, hw.below⟩ | exact hw.below
          (try simp only [qd, ne_eq] at h12)
          simp only [qz]
          refine rf_not rfl rfl rfl ?_
          simp only [qz]
          refine rg_move ?_
          simp only [qz]
          refine rf_loadR (n := 2) rfl rfl rfl Try.underlying24 rfl Kx (fun w hw => Kn.hd0 (Kn.tl (Kn.tlU (Kn.tl (Kn.tlU (Kn.tl (Kn.tlU (Kn.tl (Kn.tlU (Kn.tl (Kn.tlU (Kn.tl (Kn.tlU (Kn.tl hw)))))))))))))) rfl rfl ?_
          simp only [qz]
          apply rg_pureb Rx Kx
          case hargs => exact Ax
          case h => exact fun w hw => rUn_any m ys a' c' hvd.2 w (hB.kn0 hw)
          case hz => exact Nz
          intro x h13
          cases x
          · (try simp only [qd, ne_eq] at h13)
            simp only [qz]
            refine rf_not rfl rfl rfl ?_
            simp only [qz]
            refine rf_pick rfl rfl rfl ?_
            simp only [qz]
            refine rg_nil (ek_next (wk_cond_t rfl (wk_seq ?_)))
            refine wk_region [1, 0] rfl Kx ?_
            simp only [qy]
            apply rg_pure Rx Kx
            case hargs => exact Ax
            case h => exact fun w hw => sane2_any w
            case hz => exact Nz
            simp only [qz]
            refine rg_assign ?_
            simp only [qz]
            refine rg_nil (ek_next (wk_ret (ek_then_ret ?_)))
            refine ek_ret (fun w hw => ⟨rfl, _, res_t _ rfl, ?_⟩)
            (try simp only [qz])
            first | exact ⟨rfl, hw.below⟩ | exact ⟨trivial, hw.below⟩ | exact hw.below
          (try simp only [qd, ne_eq] at h13)
          simp only [qz]
          have hun := ag_un he h12 h13
          have htr := hun.2.2.2.1
          refine rf_not rfl rfl rfl ?_
          simp only [qz]
          refine rf_pick rfl rfl rfl ?_
          simp only [qz]
          refine rg_nil (ek_next (wk_cond_f rfl (wk_skip (ek_next (wk_seq ?_)))))
          refine wk_region [0, 1, 0, 0, 0, 1, 1, 0] rfl Kx ?_
          simp only [qy]
          refine rf_loadR (n := 2) rfl rfl rfl Try.underlying24 rfl Kx (fun w hw => Kn.hd0 (Kn.tl (Kn.tl (Kn.tlU (Kn.tl (Kn.tlU (Kn.tl (Kn.tlU (Kn.tl (Kn.tlU (Kn.tl (Kn.tlU (Kn.tl (Kn.tlU (Kn.tl hw))))))))))))))) rfl rfl ?_
          simp only [qz]
          apply rg_retM Rx Kx
          case hargs => exact Ax
          case h => exact fun w hw => mtranspose_any n xs a c hlx w (hA.kn0 hw)
          case hz => exact Nz
          intro va20 vc20 u20 hO20
          simp only [qz]
          refine rg_move ?_
          simp only [qz]
          refine rf_extract rfl rfl rfl rfl ?_
          simp only [qz]
          refine rf_extract rfl rfl rfl rfl ?_
          simp only [qz]
          refine Rgn fun g21 => ?_
          simp only [qz]
          refine rf_storeR (n := 2) rfl rfl Kx rfl rfl (UpdR.here _ _ _ Nl) Nz ?_
          simp only [qz, Nat.reduceAdd]
          refine rg_assign ?_
          simp only [qz]
          refine rg_nil (ek_next (wk_seq ?_))
          refine wk_region [0, 0, 1, 0, 0, 0, 1, 1, 0] rfl Kx ?_
          simp only [qy]
          refine rf_loadR (n := 2) rfl rfl rfl Try.underlying24 rfl Kx (fun w hw => Kn.hd0 (Kn.tl (Kn.tl (Kn.tlU (Kn.tl (Kn.tlU (Kn.tl (Kn.tlU (Kn.tl (Kn.tlU (Kn.tl (Kn.tlU (Kn.tl (Kn.tlU (Kn.tl (Kn.tlU (Kn.tl hw))))))))))))))))) rfl rfl ?_
          simp only [qz]
          refine rf_loadR (n := 2) rfl rfl rfl Try.underlying24 rfl Kx (fun w hw => Kn.hd0 (Kn.tl (Kn.tlU (Kn.tl (Kn.tlU (Kn.tl (Kn.tlU (Kn.tl (Kn.tlU (Kn.tl (Kn.tlU (Kn.tl (Kn.tlU (Kn.tl (Kn.tlU (Kn.tl hw)))))))))))))))) rfl rfl ?_
          simp only [qz]
          apply rg_retM Rx Kx
          case hargs => exact Ax
          case h => exact fun w hw => beside_any n m xs ys a a' c c' hlx hly w (hA.kn0 hw) (hB.kn0 hw)
          case hz => exact Nz
          intro va22 vc22 u22 hO22
          simp only [qz]
          refine rg_move ?_
          simp only [qz]
          refine rf_extract rfl rfl rfl rfl ?_
          simp only [qz]
          refine rf_extract rfl rfl rfl rfl ?_
          simp only [qz]
          refine Rgn fun g23 => ?_
          simp only [qz]
          refine rf_storeR (n := 2) rfl rfl Kx rfl rfl (UpdR.here _ _ _ Nl) Nz ?_
          simp only [qz, Nat.reduceAdd]
          refine rg_assign ?_
          simp only [qz]
          refine rg_nil (ek_next (wk_seq ?_))
          refine wk_region [0, 0, 0, 0, 1, 0, 0, 0, 1, 0, 0, 0, 1, 0, 0, 0, 0, 0, 0, 0, 0, 0, 1, 0, 0, 0, 0, 1, 0, 0] rfl Kx ?_
          simp only [qy]
          refine rg_move ?_
          simp only [qz]
          refine rfb_eql rfl rfl rfl rfl ?_
          intro x h14
          obtain rfl : x = true := by (refine h14.symm.trans ?_; exact decide_eq_true Ox)
          clear h14
          simp only [qz]
          refine rg_move ?_
          simp only [qz]
          refine rf_loadR (n := 2) rfl rfl rfl Try.underlying24 rfl Kx (fun w hw => Kn.hd0 (Kn.tlU (Kn.tl (Kn.tlU (Kn.tl (Kn.tlU (Kn.tl (Kn.tlU (Kn.tl (Kn.tlU (Kn.tl (Kn.tlU (Kn.tl (Kn.tlU (Kn.tl hw))))))))))))))) rfl rfl ?_
          simp only [qz]
          apply rg_pure Rx Kx
          case hargs => exact Ax
          case h => exact fun w hw => lunitary_yes hun.1 _ _ w (OwnN.asN hO4 (hw.perm ((((((((((((((((((((((((((((((((List.Perm.refl _).cons _).trans (List.perm_middle (l₁ := u4)).symm).append_left _).trans (List.perm_append_comm_assoc u6 u4 _)).cons _).trans (List.perm_middle (l₁ := u4)).symm).append_left _).trans (List.perm_append_comm_assoc u8 u4 _)).cons _).trans (List.perm_middle (l₁ := u4)).symm).append_left _).trans (List.perm_append_comm_assoc u10 u4 _)).cons _).trans (List.perm_middle (l₁ := u4)).symm).append_left _).trans (List.perm_append_comm_assoc u12 u4 _)).cons _).trans (List.perm_middle (l₁ := u4)).symm).append_left _).trans (List.perm_append_comm_assoc u14 u4 _)).cons _).trans (List.perm_middle (l₁ := u4)).symm).append_left _).trans (List.perm_append_comm_assoc u20 u4 _)).cons _).trans (List.perm_middle (l₁ := u4)).symm).append_left _).trans (List.perm_append_comm_assoc u22 u4 _)).cons _).trans (List.perm_middle (l₁ := u4)).symm).trans ((List.Perm.refl _).append_left _))))
          case hz => exact Nz
          simp only [qz]
          refine rf_pick rfl rfl rfl ?_
          simp only [qz]
          refine rg_move ?_
          simp only [qz]
          refine rf_loadR (n := 2) rfl rfl rfl Try.underlying24 rfl Kx (fun w hw => Kn.hd0 (Kn.tlU (Kn.tl (Kn.tlU (Kn.tl (Kn.tlU (Kn.tl (Kn.tlU (Kn.tl (Kn.tlU (Kn.tl (Kn.tlU (Kn.tl hw))))))))))))) rfl rfl ?_
          simp only [qz]
          apply rg_pure Rx Kx
          case hargs => exact Ax
          case h => exact fun w hw => lunitary_yes hun.2.1 _ _ w (OwnN.asN hO6 (hw.perm ((((((((((((((((((((((((((((List.Perm.refl _).cons _).trans (List.perm_middle (l₁ := u6)).symm).append_left _).trans (List.perm_append_comm_assoc u8 u6 _)).cons _).trans (List.perm_middle (l₁ := u6)).symm).append_left _).trans (List.perm_append_comm_assoc u10 u6 _)).cons _).trans (List.perm_middle (l₁ := u6)).symm).append_left _).trans (List.perm_append_comm_assoc u12 u6 _)).cons _).trans (List.perm_middle (l₁ := u6)).symm).append_left _).trans (List.perm_append_comm_assoc u14 u6 _)).cons _).trans (List.perm_middle (l₁ := u6)).symm).append_left _).trans (List.perm_append_comm_assoc u20 u6 _)).cons _).trans (List.perm_middle (l₁ := u6)).symm).append_left _).trans (List.perm_append_comm_assoc u22 u6 _)).cons _).trans (List.perm_middle (l₁ := u6)).symm).trans ((List.Perm.refl _).append_left _))))
          case hz => exact Nz
          simp only [qz]
          refine rf_pick rfl rfl rfl ?_
          simp only [qz]
          refine rg_move ?_
          simp only [qz]
          refine rf_loadR (n := 2) rfl rfl rfl Try.underlying24 rfl Kx (fun w hw => Kn.hd0 (Kn.tlU (Kn.tl hw))) rfl rfl ?_
          simp only [qz]
          apply rg_pure Rx Kx
          case hargs => exact Ax
          case h => exact fun w hw => lunitary_yes hun.2.2.1 _ _ w (OwnN.asN hO20 (hw.perm ((((((((List.Perm.refl _).cons _).trans (List.perm_middle (l₁ := u20)).symm).append_left _).trans (List.perm_append_comm_assoc u22 u20 _)).cons _).trans (List.perm_middle (l₁ := u20)).symm).trans ((List.Perm.refl _).append_left _))))
          case hz => exact Nz
          simp only [qz]
          refine rf_pick rfl rfl rfl ?_
          simp only [qz]
          refine rg_move ?_
          simp only [qz]
          apply rg_soft_g
          case hg => rfl
          case hy => (intro w hw; go_simp; (try go_bits); exact Yld.mk _ _)
          simp only [qz]
          refine rfb_eql rfl rfl rfl rfl ?_
          intro x h15
          cases x
          · (try simp only [qd, ne_eq] at h15)
            simp only [qz]
            have hb0 := hun.2.2.2.2.resolve_left (by simpa using h15)
            have hb00 := hb0.1
            apply rg_soft_g
            case hg => rfl
            case hy => (intro w hw; go_simp; (try go_bits); exact Yld.mk _ _)
            simp only [qz]
            apply rg_soft_g
            case hg => rfl
            case hy => (intro w hw; go_simp; (try go_bits); exact Yld.mk _ _)
            simp only [qz]
            refine rfb_eql rfl rfl rfl rfl ?_
            intro x h16
            obtain rfl : x = true := by (refine h16.symm.trans ?_; exact decide_eq_true Ox)
            clear h16
            simp only [qz]
            apply rg_soft_g
            case hg => rfl
            case hy => (intro w hw; go_simp; (try go_bits); exact Yld.mk _ _)
            simp only [qz]
            refine rf_loadR (n := 2) rfl rfl rfl Try.underlying24 rfl Kx (fun w hw => Kn.hd0 hw) rfl rfl ?_
            simp only [qz]
            apply rg_pure Rx Kx
            case hargs => exact Ax
            case h => exact fun w hw => lunitary_yes hb0.2 _ _ w (OwnN.asN hO22 (hw.perm (perm_atU (l := [_]) (u := u22) (List.Perm.refl _))))
            case hz => exact Nz
            simp only [qz]
            refine rf_pick rfl rfl rfl ?_
            simp only [qz]
            refine rf_pick rfl rfl rfl ?_
            simp only [qz]
            refine rf_pick rfl rfl rfl ?_
            simp only [qz]
            refine rg_move ?_
            simp only [qz]
            apply rg_pure Rx Kx
            case hargs => exact Ax
            case h => exact fun w hw => sane2_any w
            case hz => exact Nz
            simp only [qz]
            refine rf_pick rfl rfl rfl ?_
            simp only [qz]
            refine rg_assign ?_
            simp only [qz]
            refine rg_nil (ek_next (wk_ret ?_))
            refine ek_ret (fun w hw => ⟨rfl, _, res_t _ rfl, ?_⟩)
            (try simp only [qz])
            first | exact ⟨rfl, hw.below⟩ | exact ⟨trivial, hw.below⟩ | exact hw.below
          (try simp only [qd, ne_eq] at h15)
          simp only [qz]
          apply rg_soft_g
          case hg => rfl
          case hy => (intro w hw; go_simp; (try go_bits); exact Yld.mk _ _)
          simp only [qz]
          refine rg_skip Rx ?_
          simp only [qz]
          refine rg_skip Rx ?_
          simp only [qz]
          refine rg_skip Rx ?_
          simp only [qz]
          refine rg_skip Rx ?_
          simp only [qz]
          refine rg_skip_h Rx Nz ?_
          simp only [qz]
          refine rg_skip Rx ?_
          simp only [qz]
          refine rf_pick rfl rfl rfl ?_
          simp only [qz]
          refine rf_pick rfl rfl rfl ?_
          simp only [qz]
          refine rg_move ?_
          simp only [qz]
          apply rg_pure Rx Kx
          case hargs => exact Ax
          case h => exact fun w hw => sane2_any w
          case hz => exact Nz
          simp only [qz]
          refine rf_pick rfl rfl rfl ?_
          simp only [qz]
          refine rg_assign ?_
          simp only [qz]
          refine rg_nil (ek_next (wk_ret ?_))
          refine ek_ret (fun w hw => ⟨rfl, _, res_t _ rfl, ?_⟩)
          (try simp only [qz])
          first | exact ⟨rfl, hw.below⟩ | exact ⟨trivial, hw.below⟩ | exact hw.below
        (try simp only [qd, ne_eq] at h4)
        simp only [qz]
        refine rg_nil (ek_next (wk_cond_t rfl (wk_seq ?_)))
        refine wk_region [1, 0] rfl Kx ?_
        simp only [qy]
        apply rg_pure Rx Kx
        case hargs => exact Ax
        case h => exact fun w hw => sane2_any w
        case hz => exact Nz
        simp only [qz]
        refine rg_assign ?_
        simp only [qz]
        refine rg_nil (ek_next (wk_ret (ek_then_ret ?_)))
        refine ek_ret (fun w hw => ⟨rfl, _, res_t _ rfl, ?_⟩)
        (try simp only [qz])
        first | exact ⟨rfl, hw.below⟩ | exact ⟨trivial, hw.below⟩ | exact hw.below
      (try simp only [qd, ne_eq] at h3)
      simp only [qz]
      refine rf_pick rfl rfl rfl ?_
      simp only [qz]
      refine rg_nil (ek_next (wk_cond_t rfl (wk_seq ?_)))
      refine wk_region [1, 0] rfl Kx ?_
      simp only [qy]
      apply rg_pure Rx Kx
      case hargs => exact Ax
      case h => exact fun w hw => sane2_any w
      case hz => exact Nz
      simp only [qz]
      refine rg_assign ?_
      simp only [qz]
      refine rg_nil (ek_next (wk_ret (ek_then_ret ?_)))
      refine ek_ret (fun w hw => ⟨rfl, _, res_t _ rfl, ?_⟩)
      (try simp only [qz])
      first | exact ⟨rfl, hw.below⟩ | exact ⟨trivial, hw.below⟩ | exact hw.below
    (try simp only [qd, ne_eq] at h2)
    simp only [qz]
    refine rf_pick rfl rfl rfl ?_
    simp only [qz]
    refine rg_move ?_
    simp only [qz]
    refine rg_skip Rx ?_
    simp only [qz]
    refine rg_skip_h Rx Nz ?_
    simp only [qz]
    refine rf_pick rfl rfl rfl ?_
    simp only [qz]
    refine rg_nil (ek_next (wk_cond_t rfl (wk_seq ?_)))
    refine wk_region [1, 0] rfl Kx ?_
    simp only [qy]
    apply rg_pure Rx Kx
    case hargs => exact Ax
    case h => exact fun w hw => sane2_any w
    case hz => exact Nz
    simp only [qz]
    refine rg_assign ?_
    simp only [qz]
    refine rg_nil (ek_next (wk_ret (ek_then_ret ?_)))
    refine ek_ret (fun w hw => ⟨rfl, _, res_t _ rfl, ?_⟩)
    (try simp only [qz])
    first | exact ⟨rfl, hw.below⟩ | exact ⟨trivial, hw.below⟩ | exact hw.below
  (try simp only [qd, ne_eq] at h1)
  simp only [qz]
  refine rg_move ?_
  simp only [qz]
  refine rg_skip Rx ?_
  simp only [qz]
  refine rg_skip_h Rx Nz ?_
  simp only [qz]
  refine rf_pick rfl rfl rfl ?_
  simp only [qz]
  refine rg_move ?_
  simp only [qz]
  refine rg_skip Rx ?_
  simp only [qz]
  refine rg_skip_h Rx Nz ?_
  simp only [qz]
  refine rf_pick rfl rfl rfl ?_
  simp only [qz]
  refine rg_nil (ek_next (wk_cond_t rfl (wk_seq ?_)))
  refine wk_region [1, 0] rfl Kx ?_
  simp only [qy]
  apply rg_pure Rx Kx
  case hargs => exact Ax
  case h => exact fun w hw => sane2_any w
  case hz => exact Nz
  simp only [qz]
  refine rg_assign ?_
  simp only [qz]
  refine rg_nil (ek_next (wk_ret (ek_then_ret ?_)))
  refine ek_ret (fun w hw => ⟨rfl, _, res_t _ rfl, ?_⟩)
  (try simp only [qz])
  first | exact ⟨rfl, hw.below⟩ | exact ⟨trivial, hw.below⟩ | exact hw.below

end Go.Proofs.Ytjeijnjaleldkaa
