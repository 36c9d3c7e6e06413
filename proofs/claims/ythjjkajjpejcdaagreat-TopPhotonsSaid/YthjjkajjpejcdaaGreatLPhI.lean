/- Texts in one: Ch4, ChP2, Ch5, Ch6, UnPl, Us1, AgP0, AgP1, LiPl, PgT, PgV, PhR, PhL, PhV, PhO, Ve2, Lig. -/
import Derived.Test.YthjjkajjpejcdaaGreatLPhH
namespace Go.Proofs.YthjjkajjpejcdaaGreat
set_option linter.all false
set_option maxRecDepth 100000
set_option maxHeartbeats 1000000
open Go.RowKit
section
variable {n : Int} {xs : List Nm} {p r : List Int}
theorem ampR_20 (h : validB n xs = false) : ampR n xs p r = .error 20 := by unfold ampR; rw [h]; rfl
theorem ampR_21 (h : validB n xs = true) (hs : ¬ ((p.length : Int) = n ∧ (r.length : Int) = n)) : ampR n xs p r = .error 21 := by unfold ampR; rw [h, if_pos rfl, if_neg hs]
theorem ampR_2 (h : validB n xs = true) (hs : (p.length : Int) = n ∧ (r.length : Int) = n) (hb : ¬ (patB p = true ∧ patB r = true ∧ (modes p p.length).length = (modes r r.length).length)) : ampR n xs p r = .error 2 := by unfold ampR; rw [h, if_pos rfl, if_pos hs, if_neg hb]
theorem ampR_ok (h : validB n xs = true) (hs : (p.length : Int) = n ∧ (r.length : Int) = n) (hb : patB p = true ∧ patB r = true ∧ (modes p p.length).length = (modes r r.length).length) : ampR n xs p r = perF (modes p p.length).length (ampF n.toNat xs (modes r r.length) (modes p p.length)) := by unfold ampR; rw [h, if_pos rfl, if_pos hs, if_pos hb]
end
theorem nm_okQ {xs : List Nm} (h : allOk xs = true) (k : Nat) : (nm xs k).Ok := by
 by_cases hk : k < xs.length
 ·exact ok_at h hk
 have e : nm xs k = Nm.zero := by
  show El.at NmE xs k = _
  unfold El.at
  rw [List.getD_eq_getElem?_getD, List.getElem?_eq_none Ox]
  rfl
 rw [e]; exact zero_ok
theorem mamplitude_any (n : Int) (xs : List Nm) (p r : List Int) (a a1 a2 : Option Addr) (c c1 c2 : Nat) (hl : xs.length ≤ 1000000) (hlp : p.length ≤ 1000000) (hlr : r.length ≤ 1000000) (w : World) (hA : AS w a (nms xs)) (hP : AS w a1 (zs p)) (hR : AS w a2 (zs r)) : Calls Tryz.prog 40 #[.agg #[.int .i64 n, .slice a xs.length c], .slice a1 p.length c1, .slice a2 r.length c2] w fun e w' => e = .returned (numV (ampR n xs p r)) ∧ Below w.heap.size w w' := by
 go_enter Tryz.func40, Tryz.ntmps40
 refine wk_start ?_
 refine wk_seq ?_
 refine wk_region [1, 1, 0] rfl Kx ?_
 simp only [qy]
 refine Rgn fun g1 => ?_
 simp only [qz]
 refine Rgn fun g2 => ?_
 simp only [qz]
 refine rg_assign ?_
 simp only [qz]
 refine rg_nil (ek_next (wk_seq (wk_block (wk_seq ?_))))
 refine wk_region [0, 1, 0, 0] rfl Kx ?_
 simp only [qy]
 refine rf_loadR (n := 2) rfl rfl rfl UU28 rfl Kx (fun w hw => Kn.hd0 (Kn.tl hw)) rfl rfl ?_
 simp only [qz]
 apply rg_pureb Rx Kx
 case hargs => exact Ax
 case h => exact fun w hw => mvalid_any n xs a c hl w (hA.kn0 hw)
 case hz => exact Nz
 intro x h1
 cases x
 ·(try simp only [qd, ne_eq] at h1)
  simp only [qz]
  refine rf_not rfl rfl rfl ?_
  simp only [qz]
  refine rg_assign ?_
  simp only [qz]
  refine rg_nil (ek_next (wk_cond_t rfl (wk_seq ?_)))
  refine wk_region [0, 1, 0] rfl Kx ?_
  simp only [qy]
  refine rf_build (cs := fun a => #[.int .i64 0, .int .i64 0, .int .i64 0, .int .i64 0, .int .i64 0]) rfl rfl Kx ?_
  simp only [qz]
  refine rf_storeR (n := 5) rfl rfl Kx rfl rfl (UpdR.here _ _ _ Nl) Nz ?_
  simp only [qz, Nat.reduceAdd]
  refine rg_assign ?_
  simp only [qz]
  refine rg_nil (ek_next (wk_ret (ek_block_ret (ek_then_ret ?_))))
  refine ek_ret (fun w hw => ⟨rfl, _, run_results2 rfl rfl (Kn.hd0 hw) UU44 rfl Kx, ?_⟩)
  (try simp only [qz])
  exact ⟨by rw [ampR_20 h1]; rfl, hw.below⟩
 (try simp only [qd, ne_eq] at h1)
 simp only [qz]
 have hv := h1
 obtain ⟨N, rfl, hN1, hN, hlx, hlx36, hox⟩ := validB_N' hv
 replace hlx := Lib.hid hlx
 refine rf_not rfl rfl rfl ?_
 simp only [qz]
 refine rg_assign ?_
 simp only [qz]
 refine rg_nil (ek_next (wk_cond_f rfl (wk_seq ?_)))
 refine wk_region [0, 0, 0, 0, 0, 0, 0, 0, 0, 0, 0, 0, 0] rfl Kx ?_
 simp only [qy]
 refine rg_move ?_
 simp only [qz]
 refine rf_len rfl rfl rfl UU23 ?_
 simp only [qz]
 refine rf_field (n := 0) (j := 0) rfl rfl rfl UU28 rfl Kx rfl ?_
 simp only [qz]
 refine rf_load rfl rfl rfl UU3 rfl (fun w hw => (Kn.hd0 (Kn.tl hw)).at rfl) ?_
 simp only [qz]
 refine rfb_neq rfl rfl rfl rfl ?_
 intro x h2
 cases x
 ·(try simp only [qd, ne_eq] at h2)
  simp only [qz]
  refine rg_move ?_
  simp only [qz]
  apply rg_soft_g
  case hg => rfl
  case hy => (intro w hw; go_simp; (try go_bits); exact Yld.mk _ _)
  simp only [qz]
  refine rf_len rfl rfl rfl UU23 ?_
  simp only [qz]
  refine rf_field (n := 0) (j := 0) rfl rfl rfl UU28 rfl Kx rfl ?_
  simp only [qz]
  refine rf_load rfl rfl rfl UU3 rfl (fun w hw => (Kn.hd0 (Kn.tl hw)).at rfl) ?_
  simp only [qz]
  refine rfb_neq rfl rfl rfl rfl ?_
  intro x h3
  cases x
  ·(try simp only [qd, ne_eq] at h3)
   simp only [qz]
   have hsz : (p.length : Int) = N ∧ (r.length : Int) = N := ⟨by omega, by omega⟩
   refine rf_pick rfl rfl rfl ?_
   simp only [qz]
   refine rg_assign ?_
   simp only [qz]
   refine rg_nil (ek_next (wk_cond_f rfl (wk_skip (ek_block (ek_next (wk_seq ?_))))))
   refine wk_region [0, 1, 0, 0, 0, 1, 1, 0] rfl Kx ?_
   simp only [qy]
   refine rg_move ?_
   simp only [qz]
   apply rg_retPb Rx Kx
   case hargs => exact Ax
   case h => exact fun w hw => pattern_any p a1 c1 hlp w (hP.kn0 hw)
   case hz => exact Nz
   intro vap vcp up hOp
   rcases hbp : patB p with _ | _
   ·simp only [Act.put, Act.eval, qn, qv, Nat.reduceAdd]
    refine rg_move ?_
    simp only [qz]
    refine rf_extract rfl rfl rfl rfl ?_
    simp only [qz]
    refine rf_extract rfl rfl rfl rfl ?_
    simp only [qz]
    refine Rgn fun g4 => ?_
    simp only [qz]
    refine rf_store rfl rfl Kx rfl rfl (UpdR.here _ _ _ Nl) Nz ?_
    simp only [qz]
    refine rg_assign ?_
    simp only [qz]
    refine rg_nil (ek_next (wk_seq ?_))
    refine wk_region [0, 1, 0, 0, 0, 1, 1, 0] rfl Kx ?_
    simp only [qy]
    refine rg_move ?_
    simp only [qz]
    apply rg_retPb Rx Kx
    case hargs => exact Ax
    case h => exact fun w hw => pattern_any r a2 c2 hlr w (hR.kn0 hw)
    case hz => exact Nz
    intro var vcr ur hOr
    rcases hbr : patB r with _ | _
    ·simp only [Act.put, Act.eval, qn, qv, Nat.reduceAdd]
     refine rg_move ?_
     simp only [qz]
     refine rf_extract rfl rfl rfl rfl ?_
     simp only [qz]
     refine rf_extract rfl rfl rfl rfl ?_
     simp only [qz]
     refine Rgn fun g6 => ?_
     simp only [qz]
     refine rf_store rfl rfl Kx rfl rfl (UpdR.here _ _ _ Nl) Nz ?_
     simp only [qz]
     refine rg_assign ?_
     simp only [qz]
     refine rg_nil (ek_next (wk_seq (wk_seq ?_)))
     refine wk_region [0, 0, 0, 0, 0, 0, 0, 0, 0, 0, 0, 0, 0] rfl Kx ?_
     simp only [qy]
     refine rg_move ?_
     simp only [qz]
     refine rf_not rfl rfl rfl ?_
     simp only [qz]
     refine rg_move ?_
     simp only [qz]
     refine rg_skip Rx ?_
     simp only [qz]
     refine rg_skip Rx ?_
     simp only [qz]
     refine rf_pick rfl rfl rfl ?_
     simp only [qz]
     refine rg_move ?_
     simp only [qz]
     refine rg_skip Rx ?_
     simp only [qz]
     refine rg_skip Rx ?_
     simp only [qz]
     refine rg_skip Rx ?_
     simp only [qz]
     refine rg_skip Rx ?_
     simp only [qz]
     refine rg_skip Rx ?_
     simp only [qz]
     refine rf_pick rfl rfl rfl ?_
     simp only [qz]
     refine rg_nil (ek_next (wk_cond_t rfl (wk_seq ?_)))
     refine wk_region [0, 1, 0] rfl Kx ?_
     simp only [qy]
     refine rf_build (cs := fun a => #[.int .i64 0, .int .i64 0, .int .i64 0, .int .i64 0, .int .i64 0]) rfl rfl Kx ?_
     simp only [qz]
     refine rf_storeR (n := 5) rfl rfl Kx rfl rfl (UpdR.there _ (UpdR.app _ (UpdR.there _ (UpdR.app _ (UpdR.here _ _ _ Nl))))) Nz ?_
     simp only [qz, Nat.reduceAdd]
     refine rg_assign ?_
     simp only [qz]
     refine rg_nil (ek_next (wk_ret (ek_then_ret ?_)))
     refine ek_ret (fun w hw => ⟨rfl, _, run_results2 rfl rfl (Kn.hd0 (Kn.tlU (Kn.tl (Kn.tlU (Kn.tl hw))))) UU44 rfl Kx, ?_⟩)
     (try simp only [qz])
     exact ⟨by rw [ampR_2 hv hsz (fun h => by first | (rw [hbp] at h; exact absurd h.1 (by decide)) | (rw [hbr] at h; exact absurd h.2.1 (by decide)) | omega)]; rfl, hw.below⟩
    have hplr : patL r = modes r r.length := by (unfold patL; rw [hbr]; rfl)
    rw [hplr] at hOr ⊢
    simp only [qz]
    refine rg_move ?_
    simp only [qz]
    refine rf_extract rfl rfl rfl rfl ?_
    simp only [qz]
    refine rf_extract rfl rfl rfl rfl ?_
    simp only [qz]
    refine Rgn fun g7 => ?_
    simp only [qz]
    refine rf_store rfl rfl Kx rfl rfl (UpdR.here _ _ _ Nl) Nz ?_
    simp only [qz]
    refine rg_assign ?_
    simp only [qz]
    refine rg_nil (ek_next (wk_seq (wk_seq ?_)))
    refine wk_region [0, 0, 0, 0, 0, 0, 0, 0, 0, 0, 0, 0, 0] rfl Kx ?_
    simp only [qy]
    refine rg_move ?_
    simp only [qz]
    refine rf_not rfl rfl rfl ?_
    simp only [qz]
    refine rg_move ?_
    simp only [qz]
    refine rg_skip Rx ?_
    simp only [qz]
    refine rg_skip Rx ?_
    simp only [qz]
    refine rf_pick rfl rfl rfl ?_
    simp only [qz]
    refine rg_move ?_
    simp only [qz]
    refine rg_skip Rx ?_
    simp only [qz]
    refine rg_skip Rx ?_
    simp only [qz]
    refine rg_skip Rx ?_
    simp only [qz]
    refine rg_skip Rx ?_
    simp only [qz]
    refine rg_skip Rx ?_
    simp only [qz]
    refine rf_pick rfl rfl rfl ?_
    simp only [qz]
    refine rg_nil (ek_next (wk_cond_t rfl (wk_seq ?_)))
    refine wk_region [0, 1, 0] rfl Kx ?_
    simp only [qy]
    refine rf_build (cs := fun a => #[.int .i64 0, .int .i64 0, .int .i64 0, .int .i64 0, .int .i64 0]) rfl rfl Kx ?_
    simp only [qz]
    refine rf_storeR (n := 5) rfl rfl Kx rfl rfl (UpdR.there _ (UpdR.app _ (UpdR.there _ (UpdR.app _ (UpdR.here _ _ _ Nl))))) Nz ?_
    simp only [qz, Nat.reduceAdd]
    refine rg_assign ?_
    simp only [qz]
    refine rg_nil (ek_next (wk_ret (ek_then_ret ?_)))
    refine ek_ret (fun w hw => ⟨rfl, _, run_results2 rfl rfl (Kn.hd0 (Kn.tlU (Kn.tl (Kn.tlU (Kn.tl hw))))) UU44 rfl Kx, ?_⟩)
    (try simp only [qz])
    exact ⟨by rw [ampR_2 hv hsz (fun h => by first | (rw [hbp] at h; exact absurd h.1 (by decide)) | (rw [hbr] at h; exact absurd h.2.1 (by decide)) | omega)]; rfl, hw.below⟩
   have hplp : patL p = modes p p.length := by (unfold patL; rw [hbp]; rfl)
   rw [hplp] at hOp ⊢
   simp only [qz]
   refine rg_move ?_
   simp only [qz]
   refine rf_extract rfl rfl rfl rfl ?_
   simp only [qz]
   refine rf_extract rfl rfl rfl rfl ?_
   simp only [qz]
   refine Rgn fun g8 => ?_
   simp only [qz]
   refine rf_store rfl rfl Kx rfl rfl (UpdR.here _ _ _ Nl) Nz ?_
   simp only [qz]
   refine rg_assign ?_
   simp only [qz]
   refine rg_nil (ek_next (wk_seq ?_))
   refine wk_region [0, 1, 0, 0, 0, 1, 1, 0] rfl Kx ?_
   simp only [qy]
   refine rg_move ?_
   simp only [qz]
   apply rg_retPb Rx Kx
   case hargs => exact Ax
   case h => exact fun w hw => pattern_any r a2 c2 hlr w (hR.kn0 hw)
   case hz => exact Nz
   intro var vcr ur hOr
   rcases hbr : patB r with _ | _
   ·simp only [Act.put, Act.eval, qn, qv, Nat.reduceAdd]
    refine rg_move ?_
    simp only [qz]
    refine rf_extract rfl rfl rfl rfl ?_
    simp only [qz]
    refine rf_extract rfl rfl rfl rfl ?_
    simp only [qz]
    refine Rgn fun g10 => ?_
    simp only [qz]
    refine rf_store rfl rfl Kx rfl rfl (UpdR.here _ _ _ Nl) Nz ?_
    simp only [qz]
    refine rg_assign ?_
    simp only [qz]
    refine rg_nil (ek_next (wk_seq (wk_seq ?_)))
    refine wk_region [0, 0, 0, 0, 0, 0, 0, 0, 0, 0, 0, 0, 0] rfl Kx ?_
    simp only [qy]
    refine rg_move ?_
    simp only [qz]
    refine rf_not rfl rfl rfl ?_
    simp only [qz]
    refine rg_move ?_
    simp only [qz]
    apply rg_soft_g
    case hg => rfl
    case hy => (intro w hw; go_simp; (try go_bits); exact Yld.mk _ _)
    simp only [qz]
    refine rf_not rfl rfl rfl ?_
    simp only [qz]
    refine rf_pick rfl rfl rfl ?_
    simp only [qz]
    refine rg_move ?_
    simp only [qz]
    refine rg_skip Rx ?_
    simp only [qz]
    refine rg_skip Rx ?_
    simp only [qz]
    refine rg_skip Rx ?_
    simp only [qz]
    refine rg_skip Rx ?_
    simp only [qz]
    refine rg_skip Rx ?_
    simp only [qz]
    refine rf_pick rfl rfl rfl ?_
    simp only [qz]
    refine rg_nil (ek_next (wk_cond_t rfl (wk_seq ?_)))
    refine wk_region [0, 1, 0] rfl Kx ?_
    simp only [qy]
    refine rf_build (cs := fun a => #[.int .i64 0, .int .i64 0, .int .i64 0, .int .i64 0, .int .i64 0]) rfl rfl Kx ?_
    simp only [qz]
    refine rf_storeR (n := 5) rfl rfl Kx rfl rfl (UpdR.there _ (UpdR.app _ (UpdR.there _ (UpdR.app _ (UpdR.here _ _ _ Nl))))) Nz ?_
    simp only [qz, Nat.reduceAdd]
    refine rg_assign ?_
    simp only [qz]
    refine rg_nil (ek_next (wk_ret (ek_then_ret ?_)))
    refine ek_ret (fun w hw => ⟨rfl, _, run_results2 rfl rfl (Kn.hd0 (Kn.tlU (Kn.tl (Kn.tlU (Kn.tl hw))))) UU44 rfl Kx, ?_⟩)
    (try simp only [qz])
    exact ⟨by rw [ampR_2 hv hsz (fun h => by first | (rw [hbp] at h; exact absurd h.1 (by decide)) | (rw [hbr] at h; exact absurd h.2.1 (by decide)) | omega)]; rfl, hw.below⟩
   have hplr : patL r = modes r r.length := by (unfold patL; rw [hbr]; rfl)
   rw [hplr] at hOr ⊢
   simp only [qz]
   refine rg_move ?_
   simp only [qz]
   refine rf_extract rfl rfl rfl rfl ?_
   simp only [qz]
   refine rf_extract rfl rfl rfl rfl ?_
   simp only [qz]
   refine Rgn fun g11 => ?_
   simp only [qz]
   refine rf_store rfl rfl Kx rfl rfl (UpdR.here _ _ _ Nl) Nz ?_
   simp only [qz]
   refine rg_assign ?_
   simp only [qz]
   refine rg_nil (ek_next (wk_seq (wk_seq ?_)))
   refine wk_region [0, 0, 0, 0, 0, 0, 0, 0, 0, 0, 0, 0, 0] rfl Kx ?_
   simp only [qy]
   refine rg_move ?_
   simp only [qz]
   refine rf_not rfl rfl rfl ?_
   simp only [qz]
   refine rg_move ?_
   simp only [qz]
   apply rg_soft_g
   case hg => rfl
   case hy => (intro w hw; go_simp; (try go_bits); exact Yld.mk _ _)
   simp only [qz]
   refine rf_not rfl rfl rfl ?_
   simp only [qz]
   refine rf_pick rfl rfl rfl ?_
   simp only [qz]
   refine rg_move ?_
   simp only [qz]
   refine rf_load rfl rfl rfl UU23 rfl (fun w hw => (Kn.hd0 (Kn.tlU (Kn.tl hw))).at rfl) ?_
   simp only [qz]
   refine rf_len rfl rfl rfl UU23 ?_
   simp only [qz]
   refine rf_load rfl rfl rfl UU23 rfl (fun w hw => (Kn.hd0 hw).at rfl) ?_
   simp only [qz]
   refine rf_len rfl rfl rfl UU23 ?_
   simp only [qz]
   refine rfb_neq rfl rfl rfl rfl ?_
   intro x h4
   cases x
   ·(try simp only [qd, ne_eq] at h4)
    simp only [qz]
    have hlen : (modes p p.length).length = (modes r r.length).length := by omega
    refine rf_pick rfl rfl rfl ?_
    simp only [qz]
    refine rg_nil (ek_next (wk_cond_f rfl (wk_skip (ek_next (wk_seq ?_)))))
    refine wk_region [0, 0, 0, 1, 0, 0, 1, 0] rfl Kx ?_
    simp only [qy]
    refine rf_load rfl rfl rfl UU23 rfl (fun w hw => (Kn.hd0 (Kn.tlU (Kn.tl hw))).at rfl) ?_
    simp only [qz]
    refine rf_len rfl rfl rfl UU23 ?_
    simp only [qz]
    apply rg_soft
    case hy => (intro w hw; go_simp; (try go_bits); exact Yld.mk _ _)
    simp only [qz]
    apply rg_pure Rx Kx
    case hargs => exact Ax
    case h => exact fun w hw => permanent_any (modes p p.length).length (by have := (pat_len hbp).2; omega) (ampF N xs (modes r r.length) (modes p p.length)) _ (fun i k _ _ => nm_okQ hox _) w ⟨_, _, _, rfl, by kernel_rfl, fun w' hb vs rr ⟨i, k, hi, hk, hv', hr'⟩ => by
      subst hv' hr'
      have h := amp1_any xs a c N hN hlx (modes r r.length) (modes p p.length) _ _ _ _ i k g1 g11 g8 Ox hk (fun j hj => by have := modes_at (xs := r) (i := r.length) j hj; omega) (fun j hj => by have := modes_at (xs := p) (i := p.length) j hj; omega) w' ((hA.kn0 hw).below hb) ((hOr.asI (hw.perm (perm_atU (l := [_]) (u := ur) (List.Perm.refl _)))).below hb) ((hOp.asI (hw.perm ((((((((List.Perm.refl _).cons _).trans (List.perm_middle (l₁ := up)).symm).append_left _).trans (List.perm_append_comm_assoc ur up _)).cons _).trans (List.perm_middle (l₁ := up)).symm).trans ((List.Perm.refl _).append_left _)))).below hb) ((Kn.hd0 (Kn.tl (Kn.tlU (Kn.tl (Kn.tlU (Kn.tl hw)))))).belowS hb) ((Kn.hd0 hw).belowS hb) ((Kn.hd0 (Kn.tlU (Kn.tl hw))).belowS hb)
      simpa using h⟩
    case hz => exact Nz
    simp only [qz]
    obtain ⟨zl, el, hve⟩ := numV_ve (perF (modes p p.length).length (ampF N xs (modes r r.length) (modes p p.length)))
    rw [hve]
    replace hve := Lib.hid hve
    refine rf_extract rfl rfl rfl rfl ?_
    simp only [qz]
    refine rf_extract rfl rfl rfl rfl ?_
    simp only [qz]
    refine rf_storeR (n := 5) rfl rfl Kx rfl rfl (UpdR.there _ (UpdR.app _ (UpdR.there _ (UpdR.app _ (UpdR.here _ _ _ Nl))))) Nz ?_
    simp only [qz, Nat.reduceAdd]
    refine rg_assign ?_
    simp only [qz]
    refine rg_nil (ek_next (wk_ret ?_))
    refine ek_ret (fun w hw => ⟨rfl, _, run_results2 rfl rfl (Kn.hd0 (Kn.tlU (Kn.tl (Kn.tlU (Kn.tl hw))))) UU44 rfl Kx, ?_⟩)
    (try simp only [qz])
    exact ⟨by rw [ampR_ok hv hsz ⟨hbp, hbr, hlen⟩, Int.toNat_natCast, hve.out]; rfl, hw.below⟩
   (try simp only [qd, ne_eq] at h4)
   simp only [qz]
   refine rf_pick rfl rfl rfl ?_
   simp only [qz]
   refine rg_nil (ek_next (wk_cond_t rfl (wk_seq ?_)))
   refine wk_region [0, 1, 0] rfl Kx ?_
   simp only [qy]
   refine rf_build (cs := fun a => #[.int .i64 0, .int .i64 0, .int .i64 0, .int .i64 0, .int .i64 0]) rfl rfl Kx ?_
   simp only [qz]
   refine rf_storeR (n := 5) rfl rfl Kx rfl rfl (UpdR.there _ (UpdR.app _ (UpdR.there _ (UpdR.app _ (UpdR.here _ _ _ Nl))))) Nz ?_
   simp only [qz, Nat.reduceAdd]
   refine rg_assign ?_
   simp only [qz]
   refine rg_nil (ek_next (wk_ret (ek_then_ret ?_)))
   refine ek_ret (fun w hw => ⟨rfl, _, run_results2 rfl rfl (Kn.hd0 (Kn.tlU (Kn.tl (Kn.tlU (Kn.tl hw))))) UU44 rfl Kx, ?_⟩)
   (try simp only [qz])
   exact ⟨by rw [ampR_2 hv hsz (fun h => by first | (rw [hbp] at h; exact absurd h.1 (by decide)) | (rw [hbr] at h; exact absurd h.2.1 (by decide)) | omega)]; rfl, hw.below⟩
  (try simp only [qd, ne_eq] at h3)
  simp only [qz]
  refine rf_pick rfl rfl rfl ?_
  simp only [qz]
  refine rg_assign ?_
  simp only [qz]
  refine rg_nil (ek_next (wk_cond_t rfl (wk_seq ?_)))
  refine wk_region [0, 1, 0] rfl Kx ?_
  simp only [qy]
  refine rf_build (cs := fun a => #[.int .i64 0, .int .i64 0, .int .i64 0, .int .i64 0, .int .i64 0]) rfl rfl Kx ?_
  simp only [qz]
  refine rf_storeR (n := 5) rfl rfl Kx rfl rfl (UpdR.here _ _ _ Nl) Nz ?_
  simp only [qz, Nat.reduceAdd]
  refine rg_assign ?_
  simp only [qz]
  refine rg_nil (ek_next (wk_ret (ek_block_ret (ek_then_ret ?_))))
  refine ek_ret (fun w hw => ⟨rfl, _, run_results2 rfl rfl (Kn.hd0 hw) UU44 rfl Kx, ?_⟩)
  (try simp only [qz])
  exact ⟨by rw [ampR_21 hv (fun h => by omega)]; rfl, hw.below⟩
 (try simp only [qd, ne_eq] at h2)
 simp only [qz]
 refine rg_move ?_
 simp only [qz]
 refine rg_skip Rx ?_
 simp only [qz]
 refine rg_skip Rx ?_
 simp only [qz]
 refine rg_skip Rx ?_
 simp only [qz]
 refine rg_skip Rx ?_
 simp only [qz]
 refine rg_skip Rx ?_
 simp only [qz]
 refine rf_pick rfl rfl rfl ?_
 simp only [qz]
 refine rg_assign ?_
 simp only [qz]
 refine rg_nil (ek_next (wk_cond_t rfl (wk_seq ?_)))
 refine wk_region [0, 1, 0] rfl Kx ?_
 simp only [qy]
 refine rf_build (cs := fun a => #[.int .i64 0, .int .i64 0, .int .i64 0, .int .i64 0, .int .i64 0]) rfl rfl Kx ?_
 simp only [qz]
 refine rf_storeR (n := 5) rfl rfl Kx rfl rfl (UpdR.here _ _ _ Nl) Nz ?_
 simp only [qz, Nat.reduceAdd]
 refine rg_assign ?_
 simp only [qz]
 refine rg_nil (ek_next (wk_ret (ek_block_ret (ek_then_ret ?_))))
 refine ek_ret (fun w hw => ⟨rfl, _, run_results2 rfl rfl (Kn.hd0 hw) UU44 rfl Kx, ?_⟩)
 (try simp only [qz])
 exact ⟨by rw [ampR_21 hv (fun h => by omega)]; rfl, hw.below⟩
section
variable {n : Int} {xs : List Nm} {p r : List Int}
end
theorem ampR_code {n : Int} {xs : List Nm} {p r : List Int} {c : Int} (h : ampR n xs p r = .error c) : c ≠ 0 := by
 unfold ampR at h
 split at h
 ·split at h
  ·split at h
   ·have := mk_err h; omega
   ·cases h; decide
  ·cases h; decide
 ·cases h; decide
theorem ampR_yes {n : Int} {xs : List Nm} {p r : List Int} {z : Nm} (h : ampR n xs p r = .ok z) : z.Ok ∧ patB p = true ∧ patB r = true := by
 unfold ampR at h
 split at h
 ·next hv =>
  split at h
  ·split at h
   ·next hb =>
    obtain ⟨N, rfl, h1, h6, hl, -, hok⟩ := validB_N' hv
    have h5 := (pat_len hb.1).2
    have hf : ∀ i k, i < (modes p p.length).length → k < (modes p p.length).length → (ampF (N : Int).toNat xs (modes r r.length) (modes p p.length) i k).Ok := fun i k _ _ => nm_okQ hok _
    exact ⟨(mk_ok (perN_fit (by omega) hf).2.1 h).1, hb.1, hb.2.1⟩
   ·cases h
  ·cases h
 ·cases h
theorem patB_ok {p : List Int} (h : patB p = true) : okP p = true ∧ sT p p.length ≤ 5 := by
 unfold patB at h
 rw [Bool.and_eq_true, decide_eq_true_eq] at h
 exact h
def chV (n : Int) (xs : List Nm) (p r : List Int) : Value := match ampR n xs p r with
  | .error c => .tuple #[nmV Nm.zero, .int .i64 0, .int .i64 c]
  | .ok z => match z.power with
    | .error c => .tuple #[nmV Nm.zero, .int .i64 0, .int .i64 c]
    | .ok q => .tuple #[nmV q, .int .i64 (fT p p.length * fT r r.length), .int .i64 0]
theorem mchance_any (n : Int) (xs : List Nm) (p r : List Int) (a a1 a2 : Option Addr) (c c1 c2 : Nat) (hl : xs.length ≤ 1000000) (hlp : p.length ≤ 1000000) (hlr : r.length ≤ 1000000) (w : World) (hA : AS w a (nms xs)) (hP : AS w a1 (zs p)) (hR : AS w a2 (zs r)) : Calls Tryz.prog 10 #[.agg #[.int .i64 n, .slice a xs.length c], .slice a1 p.length c1, .slice a2 r.length c2] w fun e w' => e = .returned (chV n xs p r) ∧ Below w.heap.size w w' := by
 go_enter Tryz.func10, Tryz.ntmps10
 refine wk_start ?_
 refine wk_seq ?_
 refine wk_region [1, 1, 0, 0] rfl Kx ?_
 simp only [qy]
 refine Rgn fun g1 => ?_
 simp only [qz]
 refine Rgn fun g2 => ?_
 simp only [qz]
 refine rg_assign ?_
 simp only [qz]
 refine rg_assign ?_
 simp only [qz]
 refine rg_nil (ek_next (wk_seq ?_))
 refine wk_region [0, 0, 0, 1, 0, 0, 0, 1, 1, 0] rfl Kx ?_
 simp only [qy]
 refine rf_loadR (n := 2) rfl rfl rfl UU28 rfl Kx (fun w hw => Kn.hd0 (Kn.tl hw)) rfl rfl ?_
 simp only [qz]
 refine rg_move ?_
 simp only [qz]
 refine rg_move ?_
 simp only [qz]
 apply rg_pure Rx Kx
 case hargs => exact Ax
 case h => exact fun w hw => mamplitude_any n xs p r a a1 a2 c c1 c2 hl hlp hlr w (hA.kn0 hw) (hP.kn0 hw) (hR.kn0 hw)
 case hz => exact Nz
 rcases hra : ampR n xs p r with cz | z
 ·rw [show numV (Except.error cz) = .tuple #[nmV Nm.zero, .int .i64 cz] from rfl]
  have hcz := ampR_code hra
  simp only [qz]
  refine rg_move ?_
  simp only [qz]
  refine rf_extract rfl rfl rfl rfl ?_
  simp only [qz]
  refine rf_extract rfl rfl rfl rfl ?_
  simp only [qz]
  refine Rgn fun g3 => ?_
  simp only [qz]
  refine rf_storeR (n := 5) rfl rfl Kx rfl rfl (UpdR.here _ _ _ Nl) Nz ?_
  simp only [qz, Nat.reduceAdd]
  refine rg_assign ?_
  simp only [qz]
  refine rg_nil (ek_next (wk_seq (wk_seq ?_)))
  refine wk_region [0, 0] rfl Kx ?_
  simp only [qy]
  refine rg_move ?_
  simp only [qz]
  refine rfb_neq rfl rfl rfl rfl ?_
  intro x h1
  cases x
  ·(try simp only [qd, ne_eq] at h1)
   simp only [qz]
   exact absurd h1 Ox
  (try simp only [qd, ne_eq] at h1)
  simp only [qz]
  refine rg_nil (ek_next (wk_cond_t rfl (wk_seq ?_)))
  refine wk_region [0, 0, 1, 0, 0] rfl Kx ?_
  simp only [qy]
  refine rf_build (cs := fun a => #[.int .i64 0, .int .i64 0, .int .i64 0, .int .i64 0, .int .i64 0]) rfl rfl Kx ?_
  simp only [qz]
  refine rg_move ?_
  simp only [qz]
  refine rf_storeR (n := 5) rfl rfl Kx rfl rfl (UpdR.there _ (UpdR.here _ _ _ Nl)) Nz ?_
  simp only [qz, Nat.reduceAdd]
  refine rg_assign ?_
  simp only [qz]
  refine rg_assign ?_
  simp only [qz]
  refine rg_nil (ek_next (wk_ret (ek_then_ret ?_)))
  refine ek_ret (fun w hw => ⟨rfl, _, run_results3 rfl rfl (Kn.hd0 (Kn.tl hw)) UU44 rfl Kx, ?_⟩)
  (try simp only [qz])
  exact ⟨by first | (unfold chV; rw [hra]; rfl) | (unfold chV; rw [hra]; dsimp only; rw [hpw]; rfl) | (unfold chV; rw [hra]; dsimp only; rw [hpw]), hw.below⟩
 rw [show numV (Except.ok z) = .tuple #[nmV z, .int .i64 0] from rfl]
 obtain ⟨hz, hbp, hbr⟩ := ampR_yes hra
 simp only [qz]
 refine rg_move ?_
 simp only [qz]
 refine rf_extract rfl rfl rfl rfl ?_
 simp only [qz]
 refine rf_extract rfl rfl rfl rfl ?_
 simp only [qz]
 refine Rgn fun g4 => ?_
 simp only [qz]
 refine rf_storeR (n := 5) rfl rfl Kx rfl rfl (UpdR.here _ _ _ Nl) Nz ?_
 simp only [qz, Nat.reduceAdd]
 refine rg_assign ?_
 simp only [qz]
 refine rg_nil (ek_next (wk_seq (wk_seq ?_)))
 refine wk_region [0, 0] rfl Kx ?_
 simp only [qy]
 refine rg_move ?_
 simp only [qz]
 refine rf_neq (b := false) rfl rfl rfl rfl (by decide) ?_
 simp only [qz]
 refine rg_nil (ek_next (wk_cond_f rfl (wk_skip (ek_next (wk_seq ?_)))))
 refine wk_region [0, 1, 0, 0, 0, 1, 1, 0] rfl Kx ?_
 simp only [qy]
 refine rf_loadR (n := 5) rfl rfl rfl UU44 rfl Kx (fun w hw => Kn.hd0 hw) rfl rfl ?_
 simp only [qz]
 apply rg_pure Rx Kx
 case hargs => exact Ax
 case h => exact fun w hw => amPower_ok z hz w
 case hz => exact Nz
 rcases hpw : z.power with cy | y
 ·rw [show numV (Except.error cy) = .tuple #[nmV Nm.zero, .int .i64 cy] from rfl]
  have hcy := (by have := mk_err hpw; omega : cy ≠ 0)
  simp only [qz]
  refine rg_move ?_
  simp only [qz]
  refine rf_extract rfl rfl rfl rfl ?_
  simp only [qz]
  refine rf_extract rfl rfl rfl rfl ?_
  simp only [qz]
  refine Rgn fun g5 => ?_
  simp only [qz]
  refine rf_storeR (n := 5) rfl rfl Kx rfl rfl (UpdR.here _ _ _ Nl) Nz ?_
  simp only [qz, Nat.reduceAdd]
  refine rg_assign ?_
  simp only [qz]
  refine rg_nil (ek_next (wk_seq (wk_seq ?_)))
  refine wk_region [0, 0] rfl Kx ?_
  simp only [qy]
  refine rg_move ?_
  simp only [qz]
  refine rfb_neq rfl rfl rfl rfl ?_
  intro x h2
  cases x
  ·(try simp only [qd, ne_eq] at h2)
   simp only [qz]
   exact absurd h2 Ox
  (try simp only [qd, ne_eq] at h2)
  simp only [qz]
  refine rg_nil (ek_next (wk_cond_t rfl (wk_seq ?_)))
  refine wk_region [0, 0, 1, 0, 0] rfl Kx ?_
  simp only [qy]
  refine rf_build (cs := fun a => #[.int .i64 0, .int .i64 0, .int .i64 0, .int .i64 0, .int .i64 0]) rfl rfl Kx ?_
  simp only [qz]
  refine rg_move ?_
  simp only [qz]
  refine rf_storeR (n := 5) rfl rfl Kx rfl rfl (UpdR.there _ (UpdR.there _ (UpdR.here _ _ _ Nl))) Nz ?_
  simp only [qz, Nat.reduceAdd]
  refine rg_assign ?_
  simp only [qz]
  refine rg_assign ?_
  simp only [qz]
  refine rg_nil (ek_next (wk_ret (ek_then_ret ?_)))
  refine ek_ret (fun w hw => ⟨rfl, _, run_results3 rfl rfl (Kn.hd0 (Kn.tl (Kn.tl hw))) UU44 rfl Kx, ?_⟩)
  (try simp only [qz])
  exact ⟨by first | (unfold chV; rw [hra]; rfl) | (unfold chV; rw [hra]; dsimp only; rw [hpw]; rfl) | (unfold chV; rw [hra]; dsimp only; rw [hpw]), hw.below⟩
 rw [show numV (Except.ok y) = .tuple #[nmV y, .int .i64 0] from rfl]
 have hmb := mul_le2 (fT_bd (patB_ok hbp).1 (patB_ok hbp).2 (Nat.le_refl _)).1 (fT_bd (patB_ok hbp).1 (patB_ok hbp).2 (Nat.le_refl _)).2 (fT_bd (patB_ok hbr).1 (patB_ok hbr).2 (Nat.le_refl _)).1 (fT_bd (patB_ok hbr).1 (patB_ok hbr).2 (Nat.le_refl _)).2
 simp only [qz]
 refine rg_move ?_
 simp only [qz]
 refine rf_extract rfl rfl rfl rfl ?_
 simp only [qz]
 refine rf_extract rfl rfl rfl rfl ?_
 simp only [qz]
 refine Rgn fun g6 => ?_
 simp only [qz]
 refine rf_storeR (n := 5) rfl rfl Kx rfl rfl (UpdR.here _ _ _ Nl) Nz ?_
 simp only [qz, Nat.reduceAdd]
 refine rg_assign ?_
 simp only [qz]
 refine rg_nil (ek_next (wk_seq (wk_seq ?_)))
 refine wk_region [0, 0] rfl Kx ?_
 simp only [qy]
 refine rg_move ?_
 simp only [qz]
 refine rf_neq (b := false) rfl rfl rfl rfl (by decide) ?_
 simp only [qz]
 refine rg_nil (ek_next (wk_cond_f rfl (wk_skip (ek_next (wk_seq ?_)))))
 refine wk_draws_m (hz1 := (sc _ (sc _ (sk _ (sc _ sn))))) [(0, 0), (1, 3), (3, 3), (2, 1), (4, 1), (5, 3), (6, 2), (7, 0), (8, 0)] 6 Kx Kx (fun c d v a w h => by cases d <;> exact h) ?_
 simp only [List.map_cons, List.map_nil, List.getD_cons_zero, List.getD_cons_succ]
 refine rf_loadR (n := 5) rfl rfl rfl UU44 rfl Kx (fun w hw => Kn.hd0 hw) rfl rfl ?_
 simp only [qz]
 refine rg_moveP ?_
 simp only [qz]
 refine rg_moveP ?_
 simp only [qz]
 apply rg_pure Rx Kx
 case hargs => exact Ax
 case h => exact fun w hw => mfac_any p a1 c1 hlp (patB_ok hbp).1 (patB_ok hbp).2 w (hP.kn0 hw)
 case hz => exact (fun _ h => by cases h; exact (sc _ (sc _ (sc _ (sc _ sn)))))
 simp only [qz]
 apply rg_pure Rx Kx
 case hargs => exact Ax
 case h => exact fun w hw => mfac_any r a2 c2 hlr (patB_ok hbr).1 (patB_ok hbr).2 w (hR.kn0 hw)
 case hz => exact (fun _ h => by cases h; exact (sc _ (sc _ (sc _ (sc _ sn)))))
 simp only [qz]
 refine rf_mul rfl rfl rfl rfl (wrap_ok Ox Ox) ?_
 simp only [qz]
 refine rf_storeRM (n := 5) rfl rfl Kx rfl rfl (UpdR.there _ (UpdR.there _ (UpdR.here _ _ _ Nl))) (sc _ (sc _ (sk _ (sc _ sn)))) ?_
 simp only [qz, Nat.reduceAdd]
 refine rg_assign ?_
 simp only [qz]
 refine rg_assign ?_
 simp only [qz]
 refine rg_nil (ek_next (wk_ret ?_))
 refine ek_ret (fun w hw => ⟨rfl, _, run_results3 rfl rfl (Kn.hd0 (Kn.tl (Kn.tl hw))) UU44 rfl Kx, ?_⟩)
 (try simp only [qz])
 exact ⟨by first | (unfold chV; rw [hra]; rfl) | (unfold chV; rw [hra]; dsimp only; rw [hpw]; rfl) | (unfold chV; rw [hra]; dsimp only; rw [hpw]), hw.below⟩
set_option maxHeartbeats 1000000
theorem one_dl (i j : Nat) : (wantN i j).val = dl i j := by
 unfold wantN dl
 split
 ·exact val_one
 exact val_zero
theorem wnum_iff {z : Nm} (h : 0 ≤ z.k) (i j : Nat) : wnum z = (wantN i j, true) ↔ z.val = dl i j := by
 rw [← one_dl]
 constructor
 ·intro hw
  unfold wnum at hw
  split at hw
  ·have h1 := congrArg Prod.fst hw
   dsimp only at h1
   rw [← h1]
   exact (val_eqv (nf_k h).1 h (nf_eqv z)).symm
  exact absurd (congrArg Prod.snd hw) (by simp)
 intro hv
 have hk : 0 ≤ (wantN i j).k := by unfold wantN; split <;> decide
 have h1 := nf_eq h hk (eqv_val h hk hv)
 have h2 : (wantN i j).nf = wantN i j := by unfold wantN; split <;> decide
 unfold wnum
 rw [h1, h2]
 unfold wantN
 split <;> decide
theorem colS_val {xs : List Nm} {N k l : Nat} (hok : allOk xs = true) (hlen : xs.length = N * N) (hN : N ≤ 6) (hk : k < N) (hl : l < N) : ∀ n, n ≤ N → (colS xs N k l n).val = sumQ n fun i => Q4.conj (nm xs (i * N + k)).val * (nm xs (i * N + l)).val
  | 0, _ => val_zero
  | n + 1, hn => by
    have hx := ix_small (i := n) (N := N) Ox hN
    have o1 := ok_at hok (show n * N + k < xs.length by omega)
    have o2 := ok_at hok (show n * N + l < xs.length by omega)
    have p := prod_W o1 o2
    show ((colS xs N k l n).addR _).val = sumQ n _ + _
    rw [val_addR (colS_W hok hlen hN hk hl n Ox).2.1 p.2.1, colS_val hok hlen hN hk hl n Ox, val_mulR (by simp only [Nm.conj]; exact o1.k0) o2.k0, val_conj]
open Classical in
noncomputable def unB (n : Int) (xs : List Nm) : Bool := decide (∀ k l, k < n.toNat → l < n.toNat → wnum (colS xs n.toNat k l n.toNat) = (wantN k l, true))
open Classical in
theorem unB_iff {N : Nat} {xs : List Nm} : unB N xs = true ↔ ∀ k l, k < N → l < N → wnum (colS xs N k l N) = (wantN k l, true) := by
 unfold unB
 rw [decide_eq_true_eq]
 rfl
theorem validB_true {n : Int} {xs : List Nm} (h : validB n xs = true) : ∃ N : Nat, n = N ∧ 1 ≤ N ∧ N ≤ 6 ∧ xs.length = N * N ∧ xs.length ≤ 36 ∧ allOk xs = true := by
 simp only [validB, Bool.and_eq_true, decide_eq_true_eq] at h
 obtain ⟨h1, h2, h3, h4⟩ := h
 obtain ⟨N, rfl⟩ : ∃ N : Nat, n = N := ⟨n.toNat, by omega⟩
 have h5 : xs.length = N * N := by
  have e : ((N * N : Nat) : Int) = (N : Int) * N := Int.natCast_mul N N
  omega
 have h6 : N * N ≤ 6 * 6 := Nat.mul_le_mul Ox Ox
 exact ⟨N, rfl, by omega, by omega, h5, by omega, h4⟩
set_option maxHeartbeats 1000000
theorem nm_okA {xs : List Nm} (h : allOk xs = true) (k : Nat) : (nm xs k).Ok := by
 by_cases hk : k < xs.length
 ·exact ok_at h hk
 ·have e : nm xs k = Nm.zero := by
   show El.at NmE xs k = _
   unfold El.at
   rw [List.getD_eq_getElem?_getD, List.getElem?_eq_none Ox]
   rfl
  rw [e]; exact zero_ok
def tb (N : Nat) (xs : List Nm) (i k : Nat) : Q4 := (nm xs (i * N + k)).val
theorem validB_mk {N : Nat} {l : List Nm} (h1 : 1 ≤ N) (h6 : N ≤ 6) (hl : l.length = N * N) (ho : allOk l = true) : validB N l = true := by
 have e : ((N * N : Nat) : Int) = (N : Int) * N := Int.natCast_mul N N
 unfold validB
 simp only [Bool.and_eq_true, decide_eq_true_eq]
 exact ⟨by omega, by omega, by omega, ho⟩
theorem made_valid {N : Nat} {f : Nat → Nat → NR} {l : List Nm} (h1 : 1 ≤ N) (h6 : N ≤ 6) (h : madeR N f = .ok l) (hf : ∀ i k z, i < N → k < N → f i k = .ok z → z.Ok) : validB N l = true := by
 refine validB_mk h1 h6 (made_len h) (allOk_true fun t ht => okB_iff.2 ?_)
 have hl := made_len h
 have hg := gather_get h t Ox
 have ht' : t < N * N := by omega
 exact hf (t / N) (t % N) _ (Nat.div_lt_of_lt_mul ht') (Nat.mod_lt _ Ox) hg
theorem rC_gather {f : Nat → NR} {t : Nat} (hf : ∀ i c, i < t → f i = .error c → c ≠ 0) (h : rC (gather f t) = 0) : ∃ l, gather f t = .ok l := by
 cases hg : gather f t with
 | ok l => exact ⟨l, rfl⟩
 | error c =>
  obtain ⟨i, hi, he⟩ := gather_err_mem hg
  rw [hg] at h
  exact absurd h (hf i c hi he)
theorem unB_C {N : Nat} {xs : List Nm} (hv : validB N xs = true) : unB N xs = true ↔ UnC N (tb N xs) := by
 obtain ⟨N', e, h1, h6, hlen, h36, hok⟩ := validB_true hv
 obtain rfl : N' = N := by omega
 rw [unB_iff]
 have one : ∀ k l, k < N' → l < N' → (wnum (colS xs N' k l N') = (wantN k l, true) ↔ sumQ N' (fun i => Q4.conj (nm xs (i * N' + k)).val * (nm xs (i * N' + l)).val) = dl k l) := fun k l hk hl => by
  rw [← colS_val hok hlen h6 hk hl N' Ox]
  exact wnum_iff (colS_W hok hlen h6 hk hl N' Ox).2.1 k l
 exact ⟨fun h i j hi hj => (one i j hi hj).1 (h i j hi hj), fun h i j hi hj => (one i j hi hj).2 (h i j hi hj)⟩
theorem unC_congr {n : Nat} {a b : Nat → Nat → Q4} (h : ∀ i k, i < n → k < n → a i k = b i k) (hb : UnC n b) : UnC n a := by
 intro i j hi hj
 rw [← hb i j hi hj]
 exact sumQ_congr fun k hk => by rw [h k i hk hi, h k j hk hj]
set_option maxHeartbeats 1000000
theorem mulM_ok {n m : Int} {xs ys : List Nm} (h : rC (mulM n m xs ys) = 0) : ∃ (N : Nat) (l : List Nm), n = N ∧ m = N ∧ 1 ≤ N ∧ N ≤ 6 ∧ validB N xs = true ∧ validB N ys = true ∧ mulM n m xs ys = .ok l ∧ validB N l = true ∧
    ∀ i k, i < N → k < N → tb N l i k = sumQ N fun j => tb N xs i j * tb N ys j k := by
  unfold mulM at h ⊢
  cases hv : validB n xs with
  | false => rw [hv] at h; cases (show (20 : Int) = 0 from h)
  | true =>
  cases hv2 : validB m ys with
  | false => rw [hv, hv2] at h; cases (show (20 : Int) = 0 from h)
  | true =>
  rw [hv, hv2, Bool.and_self, if_pos rfl] at h
  by_cases hnm : n = m
  · subst hnm
    obtain ⟨N, rfl, h1, h6, hlen, h36, hok⟩ := validB_true hv
    obtain ⟨-, -, -, -, -, -, hok2⟩ := validB_true hv2
    rw [if_pos rfl, Int.toNat_natCast] at h; rw [Bool.and_self, if_pos rfl, if_pos rfl, Int.toNat_natCast]
    obtain ⟨l, hl⟩ : ∃ l, madeR N (mulF N xs ys) = .ok l := rC_gather (fun i c _ he => by have := prodsR_code he; omega) h
    have hx : ∀ k, (nm xs k).Ok := nm_okA hok
    have hy : ∀ k, (nm ys k).Ok := nm_okA hok2
    refine ⟨N, l, rfl, rfl, h1, h6, hv, hv2, hl, made_valid h1 h6 hl fun i k z hi hk hz => (prodsR_val (fun _ => hx _) (fun _ => hy _) hz).1, fun i k hi hk => ?_⟩
    exact (prodsR_val (fun _ => hx _) (fun _ => hy _) (made_get hl hi hk)).2
  · rw [if_neg hnm] at h; cases (show (21 : Int) = 0 from h)
theorem mapM_valid {F : Nat → List Nm → Nat → Nat → NR} {N : Nat} {xs : List Nm} (hv : validB N xs = true) (g : Nm → Nm) (hg : ∀ z : Nm, z.Ok → (g z).Ok) (ix : Nat → Nat → Nat) (hF : ∀ i k, F N xs i k = .ok (g (nm xs (ix i k)))) :
    ∃ l, mapM F N xs = .ok l ∧ validB N l = true ∧ ∀ i k, i < N → k < N → nm l (i * N + k) = g (nm xs (ix i k)) := by
  obtain ⟨N', e, h1, h6, hlen, h36, hok⟩ := validB_true hv
  obtain rfl : N' = N := by omega
  unfold mapM
  rw [hv, if_pos rfl, Int.toNat_natCast]
  obtain ⟨l, hl⟩ : ∃ l, madeR N' (F N' xs) = .ok l := by
    have := gather_pure (fun t => g (nm xs (ix (t / N') (t % N')))) (N' * N')
    refine ⟨_, Eq.trans (gather_congr _ fun t _ => ?_) this⟩
    exact hF _ _
  refine ⟨l, hl, made_valid h1 h6 hl fun i k z hi hk hz => ?_, fun i k hi hk => ?_⟩
  · rw [hF] at hz; cases hz; exact hg _ (nm_okA hok _)
  · have := made_get hl hi hk
    rw [hF] at this
    exact (Except.ok.inj this).symm
theorem dagM_ok {N : Nat} {xs : List Nm} (hv : validB N xs = true) : ∃ l, mapM dagF N xs = .ok l ∧ validB N l = true ∧ ∀ i k, i < N → k < N → tb N l i k = Q4.conj (tb N xs k i) := by
 obtain ⟨l, h1, h2, h3⟩ := mapM_valid (F := dagF) hv Nm.conj (fun z hz => conj_ok hz) (fun i k => k * N + i) fun i k => rfl
 exact ⟨l, h1, h2, fun i k hi hk => by unfold tb; rw [h3 i k hi hk, val_conj]⟩
set_option maxHeartbeats 1000000
theorem appM_ok {N : Nat} {xs vs : List Nm} (hv : validB N xs = true) (h : rC (appM N xs vs) = 0) : ∃ l, appM N xs vs = .ok l ∧ vecB vs = true ∧ N = vs.length ∧ vecB l = true ∧ l.length = N ∧ ∀ i, i < N → (nm l i).val = sumQ N fun k => (nm xs (i * N + k)).val * (nm vs k).val := by
 unfold appM at h ⊢
 rw [hv] at h ⊢
 cases hv2 : vecB vs with
 | false => rw [hv2] at h; cases (show (20 : Int) = 0 from h)
 | true =>
 rw [hv2, Bool.and_self, if_pos rfl] at h
 obtain ⟨N', e, h1, h6, hlen, h36, hok⟩ := validB_true hv
 obtain rfl : N' = N := by omega
 obtain ⟨w1, w6, wok⟩ := vecB_y hv2
 by_cases hn : (N' : Int) = vs.length
 ·rw [if_pos hn, Int.toNat_natCast] at h
  rw [Bool.and_self, if_pos rfl, if_pos hn, Int.toNat_natCast]
  have hvk : ∀ k, (nm vs k).Ok := nm_okA wok
  obtain ⟨l, hl⟩ : ∃ l, gather (appR N' xs vs) N' = .ok l := rC_gather (fun i c _ he => by have := prodsR_code he; omega) h
  have hll := gather_len hl
  have hlo : ∀ i, i < N' → (nm l i).Ok ∧ (nm l i).val = sumQ N' fun k => (nm xs (i * N' + k)).val * (nm vs k).val := fun i hi =>
   prodsR_val (fun _ => nm_okA hok _) hvk (gather_get hl i hi)
  refine ⟨l, hl, rfl, by omega, ?_, hll, fun i hi => (hlo i hi).2⟩
  unfold vecB
  simp only [Bool.and_eq_true, decide_eq_true_eq]
  exact ⟨by omega, by omega, allOk_true fun t ht => okB_iff.2 (hlo t (by omega)).1⟩
 ·rw [if_neg hn] at h; cases (show (21 : Int) = 0 from h)
set_option maxHeartbeats 1000000
theorem turn_M (z : Nm) : ∀ n, Nm.turn n z = turnM n z
  | 0 => rfl
  | n + 1 => by show (Nm.turn n z).rot = (turnM n z).rot; rw [turn_M z n]
def itQ (x : It) (m : Tb) : Tb := if x.kind = 1 then phQ (x.at_ - 1).toNat (omP (x.n % 8).toNat) m else if x.kind = 3 then crQ (x.at_ - 1).toNat m else cpQ (x.at_ - 1).toNat m
def actQ (L : List It) (m : Tb) : Tb := L.foldl (fun m x => itQ x m) m
def cpls (L : List It) : Nat := (L.filter fun x => decide (x.kind = 2)).length
theorem actQ_snoc (L : List It) (x : It) (m : Tb) : actQ (L ++ [x]) m = itQ x (actQ L m) := by unfold actQ; rw [List.foldl_append]; rfl
theorem it_kind {N : Nat} {x : It} (h : fitB N x = true) : (x.kind = 1 ∧ (x.at_ - 1).toNat < N ∧ 1 ≤ x.n ∧ x.n ≤ 7) ∨ ((x.kind = 2 ∨ x.kind = 3) ∧ (x.at_ - 1).toNat + 1 < N) := by
 have h' := of_decide_eq_true h
 unfold wd at h'
 obtain ⟨h0, h1, h2⟩ := h'
 by_cases k1 : x.kind = 1
 ·rw [if_pos k1] at h0 h2
  split at h0
  ·rename_i hn
   rw [if_pos hn] at h2
   exact .inl ⟨k1, by omega, hn.1, hn.2.1⟩
  ·exact absurd rfl h0
 ·rw [if_neg k1] at h0 h2
  split at h0
  ·rename_i hk
   rw [if_pos hk] at h2
   split at h0
   ·rename_i hn
    rw [if_pos hn] at h2
    exact .inr ⟨hk, by omega⟩
   ·exact absurd rfl h0
  ·exact absurd rfl h0
def EqT (N : Nat) (a b : Tb) : Prop := ∀ i k, i < N → k < N → a i k = b i k
theorem itQ_un {N : Nat} {x : It} {m : Tb} (hx : fitB N x = true) (h : UnC N m) : UnC N (itQ x m) := by
 unfold itQ
 rcases it_kind hx with ⟨k1, hp, -⟩ | ⟨k2, hp⟩
 ·rw [if_pos k1]; exact ph_un (omP_unit _) h
 ·rw [if_neg Ox]
  split
  ·exact cr_un hp h
  ·exact cp_un hp h
theorem actQ_un {N : Nat} : ∀ {L : List It} {m : Tb}, (∀ x ∈ L, fitB N x = true) → UnC N m → UnC N (actQ L m)
  | [], _, _, h => h
  | x :: L, m, hf, h => actQ_un (L := L) (fun y hy => hf y (by simp [hy])) (itQ_un (hf x (by simp)) h)
theorem dl_un (N : Nat) : UnC N dl := fun i j hi hj => by
  rw [sumQ_congr (g := fun k => dl i k * dl k j) fun k _ => by rw [dl_conj, dl_comm k i], sumQ_dl _ hi]
theorem it_lin {N : Nat} {x : It} (hx : fitB N x = true) (m : Tb) {i k : Nat} (hi : i < N) : itQ x m i k = sumQ N fun j => itQ x dl i j * m j k := by
 have base : ∀ i, i < N → m i k = sumQ N fun j => dl i j * m j k := fun i hi => (sumQ_dl (fun j => m j k) hi).symm
 unfold itQ
 rcases it_kind hx with ⟨k1, hp, -⟩ | ⟨k2, hp⟩
 ·rw [if_pos k1]
  simp only [if_pos k1]
  unfold phQ
  by_cases e : i = (x.at_ - 1).toNat
  ·simp only [if_pos e]
   rw [sumQ_congr fun j _ => Q4.mul_assoc _ _ _, sumQ_mul, ← base i hi]
  ·simp only [if_neg e]
   exact base i hi
 ·have n1 : ¬ x.kind = 1 := by omega
  rw [if_neg n1]; simp only [if_neg n1]
  split
  ·exact base _ (swq_lt hp hi)
  ·unfold cpQ
   generalize (x.at_ - 1).toNat = p at *
   have lin : ∀ u v : Q4, sumQ N (fun j => hhQ * (u * dl p j + v * dl (p + 1) j) * m j k) = hhQ * (u * m p k + v * m (p + 1) k) := fun u v => by
    rw [sumQ_congr (g := fun j => hhQ * (u * (dl p j * m j k) + v * (dl (p + 1) j * m j k))) fun j _ => by rw [Q4.mul_assoc, Q4.add_mul, Q4.mul_assoc u, Q4.mul_assoc v], sumQ_mul, sumQ_add, sumQ_mul, sumQ_mul, ← base p Ox, ← base (p + 1) hp]
   by_cases e : i = p
   ·simp only [if_pos e]
    have := lin 1 imQ
    simp only [Q4.one_mul] at this
    exact this.symm
   ·simp only [if_neg e]
    by_cases e2 : i = p + 1
    ·simp only [if_pos e2]
     have := lin imQ 1
     simp only [Q4.one_mul] at this
     exact this.symm
    ·simp only [if_neg e2]
     exact base i hi
theorem nm_setI {l : List Nm} {j t : Nat} {v : Nm} (hj : j < l.length) : nm (l.set j v) t = if t = j then v else nm l t := by
 unfold nm El.at
 rw [List.getD_eq_getElem?_getD, List.getD_eq_getElem?_getD, List.getElem?_set]
 by_cases e : t = j
 ·subst e; rw [if_pos rfl, if_pos rfl, if_pos hj]; rfl
 ·rw [if_neg (fun h => e h.symm), if_neg e]
theorem idM_nm {N t : Nat} (h1 : 1 ≤ N) (h6 : N ≤ 6) (ht : t < N * N) : nm (idM N) t = if t / N = t % N then Nm.one else Nm.zero := by
 have e : idM N = (List.range (N * N)).map fun t => if t / N = t % N then Nm.one else Nm.zero := by
  unfold idM identR
  rw [if_pos Ox, Int.toNat_natCast]
  show rL (gather _ _) = _
  rw [show gather (fun t => idR (t / N) (t % N)) (N * N) = .ok _ from gather_pure (fun t => if t / N = t % N then Nm.one else Nm.zero) (N * N)]
  rfl
 rw [e]
 unfold nm El.at
 rw [List.getD_eq_getElem?_getD, List.getElem?_map, List.getElem?_range ht]; rfl
theorem ix_eq {N i k p q : Nat} (hk : k < N) (hq : q < N) : i * N + k = p * N + q ↔ i = p ∧ k = q := by
 constructor
 ·intro h
  have e1 := ix_div (i := i) hk
  have e2 := ix_div (i := p) hq
  have e3 := ix_mod (i := i) hk
  have e4 := ix_mod (i := p) hq
  rw [h] at e1 e3
  exact ⟨e1.symm.trans e2, e3.symm.trans e4⟩
 ·rintro ⟨rfl, rfl⟩; rfl
theorem idM_at {N i k : Nat} (h1 : 1 ≤ N) (h6 : N ≤ 6) (hi : i < N) (hk : k < N) : nm (idM N) (i * N + k) = if i = k then Nm.one else Nm.zero := by
 rw [idM_nm h1 h6 (ix_lt hi hk), ix_div hk, ix_mod hk]
theorem itL_at {N : Nat} {x : It} (h1 : 1 ≤ N) (h6 : N ≤ 6) (hx : fitB N x = true) {i k : Nat} (hi : i < N) (hk : k < N) : tb N (itL N x) i k = itQ x dl i k := by
 have vz : Nm.zero.val = 0 := val_zero
 have vo : Nm.one.val = 1 := val_one
 have base : (nm (idM N) (i * N + k)).val = dl i k := by
  rw [idM_at h1 h6 hi hk]
  by_cases e : i = k
  ·rw [if_pos e, e, dl_self]; rfl
  ·rw [if_neg e, dl_ne e]; rfl
 have lid := idM_len h1 h6
 unfold tb itL plcL itQ
 rcases it_kind hx with ⟨k1, hp, hn1, hn7⟩ | ⟨k2, hp⟩
 ·have e1 : ownN x = 1 := if_pos k1
  have e2 : ownL x = [Nm.turn (x.n % 8).toNat Nm.one] := if_pos k1
  rw [e1, e2, if_pos k1]
  generalize (x.at_ - 1).toNat = p at *
  show (nm ((idM N).set ((p + 0 / 1) * N + p + 0 % 1) _) _).val = _
  rw [Nat.zero_div, Nat.zero_mod, Nat.add_zero, Nat.add_zero, nm_setI (by rw [lid]; exact ix_lt hp hp)]
  unfold phQ
  by_cases e : i = p ∧ k = p
  ·rw [if_pos ((ix_eq hk hp).2 e), if_pos e.1, e.1, e.2, dl_self, Q4.mul_one]
   show (Nm.turn _ Nm.one).val = _
   rw [turn_M, turnM_val, vo, Q4.mul_one]
  ·rw [if_neg (fun h => e ((ix_eq hk hp).1 h)), base]
   by_cases e3 : i = p
   ·rw [if_pos e3, dl_ne Ox, Q4.mul_zero]
   ·rw [if_neg e3]
 ·have n1 : ¬ x.kind = 1 := by omega
  have e1 : ownN x = 2 := if_neg n1
  rw [e1, if_neg n1]
  have four : ∀ z0 z1 z2 z3 : Nm, ownL x = [z0, z1, z2, z3] → ∀ p, p + 1 < N → nm (plcS N p 2 (ownL x) (idM N) 4) (i * N + k) =
    if i = p + 1 ∧ k = p + 1 then z3 else if i = p + 1 ∧ k = p then z2 else if i = p ∧ k = p + 1 then z1 else if i = p ∧ k = p then z0 else nm (idM N) (i * N + k) := by
   intro z0 z1 z2 z3 e p hp; rw [e]
   show nm ((((idM N).set ((p + 0) * N + p + 0) z0).set ((p + 0) * N + p + 1) z1).set ((p + 1) * N + p + 0) z2 |>.set ((p + 1) * N + p + 1) z3) _ = _
   rw [nm_setI (by simp only [List.length_set, lid]; rw [Nat.add_assoc]; exact ix_lt hp hp), nm_setI (by simp only [List.length_set, lid]; exact ix_lt hp Ox),
    nm_setI (by simp only [List.length_set, lid]; rw [Nat.add_assoc]; exact ix_lt Ox hp), nm_setI (by simp only [lid]; exact ix_lt Ox Ox)]
   simp only [Nat.add_zero, Nat.add_assoc]; simp only [ix_eq (N := N) (i := i) (k := k) hk hp, ix_eq (N := N) (i := i) (k := k) hk (show p < N by omega)]
  generalize (x.at_ - 1).toNat = p at *
  show (nm (plcS N p 2 (ownL x) (idM N) 4) (i * N + k)).val = _
  split
  ·rename_i k3
   have e2 : ownL x = [Nm.zero, Nm.one, Nm.one, Nm.zero] := by unfold ownL; rw [if_neg n1, if_pos k3]
   rw [four _ _ _ _ e2 p hp]
   unfold crQ swq
   by_cases a1 : i = p
   ·subst a1
    rw [if_neg Ox, if_neg Ox, if_pos rfl]
    by_cases b1 : k = i + 1
    ·rw [if_pos ⟨rfl, b1⟩, b1, dl_self]; rfl
    ·rw [if_neg Ox, dl_ne Ox]
     by_cases b2 : k = i
     ·rw [if_pos ⟨rfl, b2⟩]; rfl
     ·rw [if_neg Ox, base, dl_ne Ox]
   ·rw [if_neg a1]
    by_cases a2 : i = p + 1
    ·subst a2
     rw [if_pos rfl]
     by_cases b1 : k = p + 1
     ·rw [if_pos ⟨rfl, b1⟩, dl_ne Ox]; rfl
     ·rw [if_neg Ox]
      by_cases b2 : k = p
      ·rw [if_pos ⟨rfl, b2⟩, b2, dl_self]; rfl
      ·rw [if_neg Ox, if_neg Ox, if_neg Ox, base, dl_ne Ox, dl_ne Ox]
    ·rw [if_neg Ox, if_neg Ox, if_neg Ox, if_neg Ox, if_neg a2, base]
  ·rename_i k3
   have e2 : ownL x = [halfN, sideN, sideN, halfN] := by unfold ownL; rw [if_neg n1, if_neg k3]
   have vh : halfN.val = hhQ := by show Q4.dh (Nm.one.co) = _; rw [dh_hh]; show hhQ * 1 = _; rw [Q4.mul_one]
   have vs : sideN.val = hhQ * imQ := by
    have : sideN.val = Q4.dh (⟨0, 0, 1, 0, 0⟩ : Nm).co := rfl
    rw [this, dh_hh]; rfl
   rw [four _ _ _ _ e2 p hp]
   unfold cpQ
   by_cases a1 : i = p
   ·subst a1
    rw [if_neg Ox, if_neg Ox, if_pos rfl]
    by_cases b1 : k = i + 1
    ·rw [if_pos ⟨rfl, b1⟩, b1, dl_self, dl_ne Ox, Q4.zero_add, Q4.mul_one, vs]
    ·rw [if_neg Ox, dl_ne (show i + 1 ≠ k by omega), Q4.mul_zero, Q4.add_zero]
     by_cases b2 : k = i
     ·rw [if_pos ⟨rfl, b2⟩, b2, dl_self, Q4.mul_one, vh]
     ·rw [if_neg Ox, base, dl_ne Ox, Q4.mul_zero]
   ·rw [if_neg a1]
    by_cases a2 : i = p + 1
    ·subst a2
     rw [if_pos rfl]
     by_cases b1 : k = p + 1
     ·rw [if_pos ⟨rfl, b1⟩, b1, dl_self, dl_ne Ox, Q4.mul_zero, Q4.zero_add, Q4.mul_one, vh]
     ·rw [if_neg Ox, dl_ne (show p + 1 ≠ k by omega), Q4.add_zero]
      by_cases b2 : k = p
      ·rw [if_pos ⟨rfl, b2⟩, b2, dl_self, Q4.mul_one, vs]
      ·rw [if_neg Ox, if_neg Ox, if_neg Ox, base, dl_ne Ox, dl_ne Ox, Q4.mul_zero, Q4.mul_zero]
    ·rw [if_neg Ox, if_neg Ox, if_neg Ox, if_neg Ox, if_neg a2, base]
theorem idM_ok {N : Nat} (h1 : 1 ≤ N) (h6 : N ≤ 6) : validB N (idM N) = true := by
 refine validB_mk h1 h6 (idM_len h1 h6) ?_
 unfold allOk
 rw [List.all_eq_true]
 intro z hz
 obtain ⟨t, ht, e⟩ := List.getElem_of_mem hz
 have := idM_nm h1 h6 (t := t) (by rw [← idM_len h1 h6]; exact ht)
 unfold nm El.at at this
 rw [List.getD_eq_getElem?_getD, List.getElem?_eq_getElem ht] at this
 have this' : (idM N)[t] = _ := this
 rw [← e, this']
 split <;> decide
theorem take_it {xs : List It} {j : Nat} (h : j < xs.length) : xs.take (j + 1) = xs.take j ++ [it xs j] := by
 rw [List.take_succ, List.getElem?_eq_getElem h]
 unfold it
 rw [List.getD_eq_getElem?_getD, List.getElem?_eq_getElem h]; rfl
theorem matS_act {N : Nat} {xs : List It} (h1 : 1 ≤ N) (h6 : N ≤ 6) (hf : ∀ x ∈ xs, fitB N x = true) : ∀ j, j ≤ xs.length → ∀ {l : List Nm}, matS N xs j = .ok l → validB N l = true ∧ EqT N (tb N l) (actQ (xs.take j) dl)
  | 0, _, l, h => by
    cases (show Except.ok (idM N) = Except.ok l from h)
    refine ⟨idM_ok h1 h6, fun i k hi hk => ?_⟩
    show (nm _ _).val = dl i k
    rw [idM_at h1 h6 hi hk]
    by_cases e : i = k
    · rw [if_pos e, e, dl_self]; rfl
    · rw [if_neg e, dl_ne e]; rfl
  | j + 1, hj, l, h => by
    rw [matS] at h
    split at h
    · cases h
    · rename_i l0 h0
      obtain ⟨v0, e0⟩ := matS_act h1 h6 hf j Ox h0
      obtain ⟨N', l', n1, n2, -, -, -, -, hl, hv, ht⟩ := mulM_ok (show rC (mulM N N (itL N (it xs j)) l0) = 0 by rw [h]; rfl)
      obtain rfl : N = N' := by omega
      rw [h] at hl
      cases hl
      have hx := hf _ (it_mem (show j < xs.length by omega))
      refine ⟨hv, fun i k hi hk => ?_⟩; rw [ht i k hi hk, take_it Ox, actQ_snoc, it_lin hx _ hi]
      exact sumQ_congr fun j' hj' => by rw [itL_at h1 h6 hx hi hj', e0 j' k hj' hk]
theorem act_in {N : Nat} : ∀ {L : List It} {m : Tb} {K : Nat}, (∀ x ∈ L, fitB N x = true) → (∀ i k, i < N → k < N → InQ K (m i k)) → ∀ i k, i < N → k < N → InQ (K + cpls L) (actQ L m i k)
  | [], _, _, _, h => h
  | x :: L, m, K, hf, h => by
    have hx := hf x (by simp)
    have hL : ∀ y ∈ L, fitB N y = true := fun y hy => hf y (by simp [hy])
    show ∀ i k, i < N → k < N → InQ (K + cpls (x :: L)) (actQ L (itQ x m) i k)
    rcases it_kind hx with ⟨k1, hp, -⟩ | ⟨k2, hp⟩
    · have e : cpls (x :: L) = cpls L := by unfold cpls; rw [List.filter_cons_of_neg]; simp; omega
      rw [e]
      refine act_in hL fun i k hi hk => ?_
      unfold itQ
      rw [if_pos k1]
      unfold phQ
      split
      · exact (h i k hi hk).omn _
      · exact h i k hi hk
    · by_cases k3 : x.kind = 3
      · have e : cpls (x :: L) = cpls L := by unfold cpls; rw [List.filter_cons_of_neg]; simp; omega
        rw [e]
        refine act_in hL fun i k hi hk => ?_
        unfold itQ
        rw [if_neg Ox, if_pos k3]
        exact h _ k (swq_lt hp hi) hk
      · have e : cpls (x :: L) = cpls L + 1 := by unfold cpls; rw [List.filter_cons_of_pos]; rfl; simp; omega
        rw [e, show K + (cpls L + 1) = (K + 1) + cpls L by omega]
        refine act_in hL fun i k hi hk => ?_
        unfold itQ
        rw [if_neg Ox, if_neg k3]
        unfold cpQ
        have i1 := h (x.at_ - 1).toNat k Ox hk
        have i2 := h ((x.at_ - 1).toNat + 1) k hp hk
        split
        · exact (i1.add i2.im).hh
        · split
          · exact (i1.im.add i2).hh
          · exact (h i k hi hk).up
theorem expo_max {xs : List Nm} {K : Int} (h0 : 0 ≤ K) (h : ∀ z ∈ xs, z.k ≤ K) : expo xs ≤ K := by
 unfold expo
 have : ∀ (xs : List Nm) (a : Int), a ≤ K → (∀ z ∈ xs, z.k ≤ K) → xs.foldl (fun k z => if k < z.k then z.k else k) a ≤ K := by
  intro xs
  induction xs with
  | nil => intro a ha _; exact ha
  | cons x xs ih =>
   intro a ha h
   refine ih _ ?_ fun z hz => h z (by simp [hz])
   have hx := h x (by simp)
   show (if a < x.k then x.k else a) ≤ K
   split
   ·exact hx
   ·exact ha
 exact this xs 0 h0 h
theorem expo_cpls {N : Nat} {L : List It} {l : List Nm} (hf : ∀ x ∈ L, fitB N x = true) (hv : validB N l = true) (he : EqT N (tb N l) (actQ L dl)) : expo l ≤ cpls L := by
 obtain ⟨N', e, h1, h6, hl, -, ho⟩ := validB_true hv
 obtain rfl : N' = N := by omega
 refine expo_max Ox fun z hz => ?_
 obtain ⟨t, ht, ez⟩ := List.getElem_of_mem hz
 have hz' : nm l t = z := by unfold nm El.at; rw [List.getD_eq_getElem?_getD, List.getElem?_eq_getElem ht]; exact ez
 have hd : N' * (t / N') + t % N' = t := Nat.div_add_mod t N'
 have hi : t / N' < N' := Nat.div_lt_of_lt_mul Ox
 have hk : t % N' < N' := Nat.mod_lt _ Ox
 have h2 := act_in (K := 0) hf (fun i k _ _ => by
  show InQ 0 (dl i k)
  unfold dl
  split
  ·exact InQ.one 0
  ·exact InQ.zero 0) (t / N') (t % N') hi hk
 rw [← he _ _ hi hk] at h2
 unfold tb at h2
 rw [Nat.mul_comm, hd, hz', Nat.zero_add] at h2
 have ok : z.Ok := by rw [← hz']; exact nm_okA ho t
 exact le_in ok.nf ok.k0 h2
set_option maxHeartbeats 1000000
theorem allOk_set {l : List Nm} (h : allOk l = true) (j : Nat) {z : Nm} (hz : z.Ok) : allOk (l.set j z) = true := by
 unfold allOk at h ⊢
 rw [List.all_eq_true] at h ⊢
 intro x hx
 rcases List.mem_or_eq_of_mem_set hx with h1 | h1
 ·exact h x h1
 ·rw [h1]; exact okB_iff.2 hz
theorem plcS_ok {N p m : Nat} {L l : List Nm} (hL : ∀ k, (nm L k).Ok) (hl : allOk l = true) : ∀ t, allOk (plcS N p m L l t) = true
  | 0 => hl
  | t + 1 => allOk_set (plcS_ok hL hl t) _ (hL t)
theorem itL_valid {N : Nat} (h1 : 1 ≤ N) (h6 : N ≤ 6) (x : It) : validB N (itL N x) = true := by
 refine validB_mk h1 h6 (itL_len h1 h6 x) (plcS_ok (fun k => ?_) (validB_true (idM_ok h1 h6)).choose_spec.2.2.2.2.2 _)
 have key : ∀ y ∈ ownL x, y.Ok := by
  intro y hy
  unfold ownL at hy
  split at hy
  ·rcases List.mem_singleton.1 hy with rfl; rw [turn_M]; exact turnM_ok one_ok _
  ·split at hy <;> simp only [List.mem_cons, List.not_mem_nil, or_false] at hy <;> rcases hy with rfl | rfl | rfl | rfl <;> exact okB_iff.1 (by decide)
 rcases Nat.lt_or_ge k (ownL x).length with h | h
 ·exact key _ (NmE.at_mem h)
 ·show ((ownL x).getD k Nm.zero).Ok
  rw [List.getD_eq_getElem?_getD, List.getElem?_eq_none h]; exact zero_ok
theorem matS_lim {N : Nat} {xs : List It} (h1 : 1 ≤ N) (h6 : N ≤ 6) (hf : ∀ x ∈ xs, fitB N x = true) : ∀ j, j ≤ xs.length → ∀ {c : Int}, matS N xs j = .error c → c = 4
  | 0, _, c, h => by cases h
  | j + 1, hj, c, h => by
    rw [matS] at h
    split at h
    · rename_i c' h0
      cases h
      exact matS_lim h1 h6 hf j Ox h0
    · rename_i l h0
      have hv := (matS_act h1 h6 hf j Ox h0).1
      unfold mulM at h
      rw [itL_valid h1 h6, hv, Bool.and_self, if_pos rfl, if_pos rfl] at h
      obtain ⟨t, ht, he⟩ := gather_err_mem h
      exact prodsR_code he
theorem itemE_fits {N : Nat} {xs : List It} (h1 : 1 ≤ N) (h6 : N ≤ 6) (hl : xs.length ≤ 5000) (hf : ∀ x ∈ xs, fitB N x = true) : itemE N xs = 0 := by
 have hv : validI N xs = true := by
  unfold validI
  rw [Bool.and_eq_true, Bool.and_eq_true, decide_eq_true_eq, decide_eq_true_eq, List.all_eq_true]
  exact ⟨by omega, hl, hf⟩
 unfold itemE
 rw [if_pos Ox, if_pos hv]
theorem matO_S {N : Nat} {xs : List It} (h1 : 1 ≤ N) (h6 : N ≤ 6) (hl : xs.length ≤ 5000) (hf : ∀ x ∈ xs, fitB N x = true) : matO N xs = matS N xs xs.length := by
 unfold matO
 rw [if_pos (itemE_fits h1 h6 hl hf), Int.toNat_natCast]
theorem mat_facts {N : Nat} {xs : List It} {m : List Nm} (h1 : 1 ≤ N) (h6 : N ≤ 6) (hf : ∀ x ∈ xs, fitB N x = true) (h : matS N xs xs.length = .ok m) :
    validB N m = true ∧ unB N m = true ∧ EqT N (tb N m) (actQ xs dl) ∧ expo m ≤ cpls xs := by
  obtain ⟨hv, he⟩ := matS_act h1 h6 hf xs.length (Nat.le_refl _) h
  rw [List.take_length] at he; refine ⟨hv, (unB_C hv).2 (unC_congr he (actQ_un hf (dl_un N))), he, expo_cpls hf hv he⟩
set_option maxHeartbeats 1000000
theorem range_gN (L : List Int) : (List.range L.length).map (fun r => (gI L r).toNat) = L.map Int.toNat := by
 apply List.ext_getElem?
 intro i
 rw [List.getElem?_map, List.getElem?_map]
 by_cases h : i < L.length
 ·rw [List.getElem?_range h, List.getElem?_eq_getElem h]
  show some (L.getD i 0).toNat = some L[i].toNat
  rw [List.getD_eq_getElem?_getD, List.getElem?_eq_getElem h]
  rfl
 ·rw [List.getElem?_eq_none (by simpa using h), List.getElem?_eq_none (by omega)]
  rfl
theorem perF_val {n : Nat} (h6 : n ≤ 6) {f : Nat → Nat → Nm} (hf : ∀ i k, i < n → k < n → (f i k).Ok) : perF n f = .error 4 ∨ ∃ z, perF n f = .ok z ∧ z.Ok ∧ z.val = pm (fun i k => (f i k).val) (List.range n) (List.range n) := by
 obtain ⟨e0, e1, e2⟩ := expF_ok hf
 have hv : (perN n f).val = pm (fun i k => (f i k).val) (List.range n) (List.range n) := by
  rw [← wyQ_full _ h6]
  exact wyS_val h6 e0 (fun i k hi hk => ⟨(hf i k hi hk).k0, e2 i k hi hk⟩) n (2 ^ n - 1) (Nat.le_refl _)
 have k1 := (perN_fit h6 hf).2.1
 unfold perF
 cases h : (perN n f).mk' with
 | error c => rw [mk_err h]; exact .inl rfl
 | ok z =>
  obtain ⟨ho, -, he⟩ := mk_ok k1 h
  exact .inr ⟨z, rfl, ho, (val_eqv ho.k0 k1 he).trans hv⟩
theorem pm_conj {α β : Type} (a : α → β → Q4) : ∀ (R : List α) (l : List β), Q4.conj (pm a R l) = pm (fun r x => Q4.conj (a r x)) R l
  | [], _ => Q4.conj_one
  | r :: R, l => by
    show Q4.conj (pk l fun x q => a r x * pm a R q) = pk l fun x q => Q4.conj (a r x) * pm (fun r x => Q4.conj (a r x)) R q
    rw [pk_conj]
    exact pk_congr l fun x q => by rw [Q4.conj_mul, pm_conj a R q]
def pmT (N : Nat) (xs : List Nm) (o i : List Int) : Q4 := pm (tb N xs) (mdN o) (mdN i)
section
variable {N p : Nat} {xs ds : List Nm} {i o : List Int}
theorem PatO.pat (h : PatO N p o) (hp : p ≤ 3) : patB o = true ∧ (modes o o.length).length = p := by
 refine ⟨?_, by have := h.mlen; unfold mdN at this; simpa using this⟩
 unfold patB
 rw [h.ok, h.sum, decide_eq_true (by omega)]; rfl
theorem amp_at (hv : validB N xs = true) (hp : p ≤ 3) (hi : PatO N p i) (ho : PatO N p o) : ampR N xs i o = .error 4 ∨ ∃ z, ampR N xs i o = .ok z ∧ z.Ok ∧ z.val = pmT N xs o i := by
 obtain ⟨N', e, h1, h6, hlen, h36, hok⟩ := validB_N hv
 obtain rfl : N' = N := by omega
 obtain ⟨pi, li⟩ := hi.pat hp
 obtain ⟨po, lo⟩ := ho.pat hp
 have e : ampR N' xs i o = perF p (ampF N' xs (modes o o.length) (modes i i.length)) := by
  unfold ampR
  rw [hv, if_pos rfl, if_pos ⟨by rw [hi.len], by rw [ho.len]⟩, if_pos ⟨pi, po, by rw [li, lo]⟩, li, Int.toNat_natCast]
 rw [e]
 rcases perF_val (by omega) (f := ampF N' xs (modes o o.length) (modes i i.length)) (n := p) (fun r c _ _ => nm_okA hok _) with h | ⟨z, h, hz, hzv⟩
 ·exact .inl h
 ·refine .inr ⟨z, h, hz, hzv.trans ?_⟩
  have e2 := pm_map (tb N' xs) (fun r => (gI (modes o o.length) r).toNat) (fun c => (gI (modes i i.length) c).toNat) (List.range p) (List.range p)
  have r1 := range_gN (modes o o.length)
  have r2 := range_gN (modes i i.length)
  rw [lo] at r1
  rw [li] at r2
  rw [r1, r2] at e2
  exact e2.symm
theorem ch_at (hv : validB N xs = true) (hp : p ≤ 3) (hi : PatO N p i) (ho : PatO N p o) : chV N xs i o = .tuple #[nmV Nm.zero, .int .i64 0, .int .i64 4] ∨
    ∃ z, chV N xs i o = .tuple #[nmV z, .int .i64 ((mfN (mdN i) * mfN (mdN o) : Nat) : Int), .int .i64 0] ∧ z.Ok ∧ z.val = pmT N xs o i * Q4.conj (pmT N xs o i) := by
  unfold chV
  rcases amp_at hv hp hi ho with h | ⟨z, h, hz, hzv⟩
  · rw [h]; exact .inl rfl
  · rw [h]
    dsimp only
    cases hq : z.power with
    | error c =>
      have : c = 4 := mk_err hq
      subst this
      exact .inl rfl
    | ok q =>
      obtain ⟨hqo, hqv⟩ := power_val hz hq
      refine .inr ⟨q, ?_, hqo, by rw [hqv, hzv]⟩
      rw [hi.fac, ho.fac, Int.natCast_mul]
theorem pm_dag (hp : p ≤ 3) (hi : PatO N p i) (ho : PatO N p o) (hd : ∀ r c, r < N → c < N → tb N ds r c = Q4.conj (tb N xs c r)) : pmT N ds i o = Q4.conj (pmT N xs o i) := by
 unfold pmT
 rw [pm_conj, pm_T _ _ _ (by rw [hi.mlen, ho.mlen]) ]
 exact pm_congr _ _ fun r hr x hx => hd x r (hi.lt x hx) (ho.lt r hr)
theorem ch_both (hv : validB N xs = true) (hvd : validB N ds = true) (hd : ∀ r c, r < N → c < N → tb N ds r c = Q4.conj (tb N xs c r)) (hp : p ≤ 3) (hi : PatO N p i) (ho : PatO N p o) :
    ∃ (z z' : Nm) (m m' c c' : Int), chV N xs i o = .tuple #[nmV z, .int .i64 m, .int .i64 c] ∧ chV N ds o i = .tuple #[nmV z', .int .i64 m', .int .i64 c'] ∧ (c = 0 ∨ c = 4) ∧ (c' = 0 ∨ c' = 4) ∧
      (c = 0 → c' = 0 → z' = z ∧ m' = m ∧ m = ((mfN (mdN i) * mfN (mdN o) : Nat) : Int) ∧ z.Ok ∧ z.val = pmT N xs o i * Q4.conj (pmT N xs o i)) := by
  rcases ch_at hv hp hi ho with h | ⟨z, h, hz, hzv⟩ <;> rcases ch_at hvd hp ho hi with h' | ⟨z', h', hz', hzv'⟩
  · exact ⟨_, _, _, _, _, _, h, h', .inr rfl, .inr rfl, fun e => by omega⟩
  · exact ⟨_, _, _, _, _, _, h, h', .inr rfl, .inl rfl, fun e => by omega⟩
  · exact ⟨_, _, _, _, _, _, h, h', .inl rfl, .inr rfl, fun _ e => by omega⟩
  · refine ⟨_, _, _, _, _, _, h, h', .inl rfl, .inl rfl, fun _ _ => ⟨val_ok hz' hz ?_, by rw [Nat.mul_comm], rfl, hz, hzv⟩⟩
    rw [hzv', hzv, pm_dag hp hi ho hd, Q4.conj_conj, Q4.mul_comm]
end
def cN (c : Nat) : Nm := ⟨(c : Int), 0, 0, 0, 0⟩
theorem cN_val : ∀ c : Nat, (cN c).val = qna c
  | 0 => rfl
  | c + 1 => by
    show _ = qna c + 1
    rw [← cN_val c]
    apply Q4.ext' <;> simp [cN, Nm.val, Q4.dn, Nm.co, Q4.aa, Q4.ab, Q4.ac, Q4.ad, Q4.oa, Q4.ob, Q4.oc, Q4.od] <;> exact (Rat.add_zero 0).symm
theorem cN_bd {c : Nat} (h : c ≤ 36) : Bd 0 36 (cN c) := ⟨Int.le_refl 0, Int.le_refl 0, ⟨by show (-36 : Int) ≤ (c : Int); omega, by show (c : Int) ≤ 36; omega, by show (-36 : Int) ≤ 0; decide, by show (0 : Int) ≤ 36; decide, by show (-36 : Int) ≤ 0; decide, by show (0 : Int) ≤ 36; decide, by show (-36 : Int) ≤ 0; decide, by show (0 : Int) ≤ 36; decide⟩⟩
theorem cN_ok {c : Nat} (h : c ≤ 36) : (cN c).Ok := ⟨⟨by show (-1000000000 : Int) ≤ (c : Int); omega, by show (c : Int) ≤ 1000000000; omega, by show (-1000000000 : Int) ≤ 0; decide, by show (0 : Int) ≤ 1000000000; decide, by show (-1000000000 : Int) ≤ 0; decide, by show (0 : Int) ≤ 1000000000; decide, by show (-1000000000 : Int) ≤ 0; decide, by show (0 : Int) ≤ 1000000000; decide⟩, Int.le_refl 0, by show (0 : Int) ≤ 40; decide, .inl rfl⟩
structure SuO (N : Nat) (xs : List Nm) (i : List Int) (l : List (List Int)) (j : Nat) (y : Nm) : Prop where
  k0 : 0 ≤ y.k
  k1 : y.k ≤ 40
  fit : (y.to 40).Fit ((j : Int) * 162129586585337856)
  val : y.val = slQ (l.take j) fun o => (pmT N xs o i * Q4.conj (pmT N xs o i)) * qna (36 / (mfN (mdN i) * mfN (mdN o)))
section
variable {N p : Nat} {xs : List Nm} {i o : List Int} {l : List (List Int)} {j : Nat} {y z : Nm}
theorem suO_start : SuO N xs i l 0 Nm.zero := ⟨by decide, by decide, (sumN_bd (n := 1) (M := 162129586585337856) (fun _ => Nm.zero) (by decide) 0 (fun k h => by omega)).fit, by rw [List.take_zero]; exact val_zero⟩
theorem su_term (hz : z.Ok) {c : Nat} (hc : c ≤ 36) : Bd 1 162129586585337856 (z.mulR (cN c)) := Bd.mul hz (cN_bd hc)
theorem SuO.bd (h : SuO N xs i l j y) : Bd 1 ((j : Int) * 162129586585337856) y := ⟨h.k0, by have := h.k1; omega, h.fit⟩
theorem SuO.pre (h : SuO N xs i l j y) (hj : j ≤ 100) (hz : z.Ok) {c : Nat} (hc : c ≤ 36) :
    (y.to (max y.k (z.mulR (cN c)).k)).Fit 9850501549098619803069760025035903451269934817616361666987073351061430442874302652853566563721228910201656997576704 ∧ ((z.mulR (cN c)).to (max y.k (z.mulR (cN c)).k)).Fit 9850501549098619803069760025035903451269934817616361666987073351061430442874302652853566563721228910201656997576704 ∧ 0 ≤ y.k ∧ y.k ≤ 10000 ∧ 0 ≤ (z.mulR (cN c)).k ∧ (z.mulR (cN c)).k ≤ 10000 := by
  have ht := su_term hz hc
  have b1 := h.k0; have b2 := h.k1; have b3 := ht.k0; have b4 := ht.k1
  refine ⟨Nm.fit_mono (h.bd.to (by omega) (by omega)) (by omega), Nm.fit_mono (ht.to (by omega) (by omega)) (by decide), b1, by omega, b3, by omega⟩
theorem SuO.step (h : SuO N xs i l j y) (ho : l[j]? = some o) (hz : z.Ok) (hzv : z.val = pmT N xs o i * Q4.conj (pmT N xs o i)) (hc : 36 / (mfN (mdN i) * mfN (mdN o)) ≤ 36) : SuO N xs i l (j + 1) (y.addR (z.mulR (cN (36 / (mfN (mdN i) * mfN (mdN o)))))) := by
 have ht := su_term hz hc
 have b1 := h.k0; have b2 := h.k1; have b3 := ht.k0; have b4 := ht.k1
 have e := addR_to (x := y) (y := z.mulR (cN (36 / (mfN (mdN i) * mfN (mdN o))))) (K := 40) b2 (by omega)
 refine ⟨addR_k b1, e.1, ?_, ?_⟩
 ·rw [e.2]
  have hf := ht.fit
  refine Nm.fit_mono (pl_fit h.fit hf) ?_
  rw [Int.natCast_add, Int.add_mul]
  omega
 ·rw [val_addR b1 b3, val_mulR hz.k0 (Int.le_refl 0), h.val, hzv, cN_val, List.take_succ, ho, slQ_app]
  show _ = _ + (_ + 0)
  rw [Q4.add_zero]
theorem wnum_36 (h0 : 0 ≤ y.k) (h : y.val = qna 36) : wnum y = (cN 36, true) := by
 have e : y.nf = (cN 36).nf := nf_eq (y := cN 36) h0 (Int.le_refl 0) (eqv_val (y := cN 36) h0 (Int.le_refl 0) (h.trans (cN_val 36).symm))
 unfold wnum
 rw [e]
 decide
end
set_option maxHeartbeats 1000000
def liS (N : Nat) (L : List It) (vs : List Nm) : Nat → LR
  | 0 => .ok vs
  | j + 1 => match liS N L vs j with
    | .error c => .error c
    | .ok l => appM N (itL N (it L j)) l
section
variable {N : Nat} {L : List It} {vs : List Nm}
theorem liS_err {j : Nat} {c : Int} (h : liS N L vs j = .error c) : ∀ m, j ≤ m → liS N L vs m = .error c := by
  intro m hm
  induction m with
  | zero => obtain rfl : j = 0 := by omega
            exact h
  | succ m ih =>
    rcases (by omega : j = m + 1 ∨ j ≤ m) with rfl | hm
    · exact h
    · simp only [liS, ih hm]
theorem appM_code4 {xs l : List Nm} {c : Int} (hv : validB N xs = true) (hl : vecB l = true) (hn : l.length = N) (h : appM N xs l = .error c) : c = 4 := by
 unfold appM at h
 rw [hv, hl, Bool.and_self, if_pos rfl, if_pos (by rw [hn])] at h
 obtain ⟨i, hi, he⟩ := gather_err_mem h
 exact prodsR_code he
theorem itL_un {x : It} (h1 : 1 ≤ N) (h6 : N ≤ 6) (hx : fitB N x = true) : UnC N (tb N (itL N x)) :=
  unC_congr (fun i k hi hk => itL_at h1 h6 hx hi hk) (itQ_un hx (dl_un N))
theorem liS_ok (h1 : 1 ≤ N) (h6 : N ≤ 6) (hf : ∀ j, j < L.length → fitB N (it L j) = true) (hv : vecB vs = true) (hl : vs.length = N) : ∀ j, j ≤ L.length → ∀ {l : List Nm}, liS N L vs j = .ok l → vecB l = true ∧ l.length = N ∧ sumQ N (fun k => (nm l k).val * Q4.conj (nm l k).val) = sumQ N fun k => (nm vs k).val * Q4.conj (nm vs k).val
  | 0, _, l, h => by cases h; exact ⟨hv, hl, rfl⟩
  | j + 1, hj, l, h => by
    simp only [liS] at h
    split at h
    · cases h
    · next l0 h0 =>
      obtain ⟨v0, n0, s0⟩ := liS_ok h1 h6 hf hv hl j (by omega) h0
      have hr : rC (appM N (itL N (it L j)) l0) = 0 := by rw [h]; rfl
      obtain ⟨l2, e2, -, -, v2, n2, t2⟩ := appM_ok (itL_valid h1 h6 (it L j)) hr
      rw [h] at e2
      cases e2
      refine ⟨v2, n2, ?_⟩
      rw [← s0, ← un_light (itL_un h1 h6 (hf j (by omega))) (fun k => (nm l0 k).val)]
      exact sumQ_congr fun i hi => by rw [t2 i hi]; rfl
theorem liS_code (h1 : 1 ≤ N) (h6 : N ≤ 6) (hf : ∀ j, j < L.length → fitB N (it L j) = true) (hv : vecB vs = true) (hl : vs.length = N) : ∀ j, j ≤ L.length → ∀ {c : Int}, liS N L vs j = .error c → c = 4
  | 0, _, c, h => by cases h
  | j + 1, hj, c, h => by
    simp only [liS] at h
    split at h
    · next h0 => cases h; exact liS_code h1 h6 hf hv hl j (by omega) h0
    · next l0 h0 =>
      obtain ⟨v0, n0, -⟩ := liS_ok h1 h6 hf hv hl j (by omega) h0
      exact appM_code4 (itL_valid h1 h6 (it L j)) v0 n0 h
theorem lenM_c4 {l : List Nm} {c : Int} (hv : vecB l = true) (h : lenM l = .error c) : c = 4 := by
 unfold lenM at h
 rw [hv, if_pos rfl] at h
 exact lenR_code h
theorem lenM_sum {l : List Nm} {y : Nm} (h : lenM l = .ok y) : y.Ok ∧ y.val = sumQ l.length fun k => (nm l k).val * Q4.conj (nm l k).val := by
 unfold lenM at h
 split at h
 ·next hv =>
  obtain ⟨-, -, ok⟩ := vecB_y hv
  exact lenR_val (fun k => nm_okA ok k) h
 ·cases h
theorem li_same (h1 : 1 ≤ N) (h6 : N ≤ 6) (hf : ∀ j, j < L.length → fitB N (it L j) = true) (hv : vecB vs = true) (hl : vs.length = N) {l : List Nm} {x y : Nm} (h : liS N L vs L.length = .ok l) (hx : lenM vs = .ok x) (hy : lenM l = .ok y) : x = y := by
 obtain ⟨v2, n2, s2⟩ := liS_ok h1 h6 hf hv hl L.length (Nat.le_refl _) h
 obtain ⟨ox, ex⟩ := lenM_sum hx
 obtain ⟨oy, ey⟩ := lenM_sum hy
 rw [hl] at ex
 rw [n2] at ey
 exact val_ok ox oy (ex.trans (s2.symm.trans ey.symm))
end
def ligV (inn : List Int) : List Nm := inn.map fun x => ⟨x, 1, 0, 0, 0⟩
theorem ligV_len (inn : List Int) : (ligV inn).length = inn.length := by simp [ligV]
set_option maxHeartbeats 1000000
def chkL (N : Nat) : Bool := (seqL 4 N).all fun R => vecB (ligV (R.map Int.ofNat)) && (match lenM (ligV (R.map Int.ofNat)) with
  | .ok _ => true
  | .error _ => false)
theorem chkL_ok {N : Nat} (h1 : 1 ≤ N) (h4 : N ≤ 4) : chkL N = true := by
 rcases (by omega : N = 1 ∨ N = 2 ∨ N = 3 ∨ N = 4) with rfl | rfl | rfl | rfl <;> decide +kernel
theorem seq_of {N : Nat} {o : List Int} (hl : o.length = N) (hb : ∀ i, i < N → 0 ≤ gI o i ∧ gI o i ≤ 3) : ∃ R ∈ seqL 4 N, R.map Int.ofNat = o := by
 have hm : ∀ x ∈ o, 0 ≤ x ∧ x ≤ 3 := fun x hx => by
  obtain ⟨i, hi⟩ := List.mem_iff_getElem?.1 hx
  have hlt : i < N := by
   rcases Nat.lt_or_ge i o.length with h | h
   ·omega
   ·rw [List.getElem?_eq_none h] at hi; cases hi
  have := hb i hlt
  unfold gI at this
  rwa [List.getD_eq_getElem?_getD, hi] at this
 refine ⟨o.map Int.toNat, seqL_mem (N := 4) N _ (by simpa using hl) (fun x hx => ?_), ?_⟩
 ·obtain ⟨y, hy, rfl⟩ := List.mem_map.1 hx
  have := hm y hy
  omega
 ·rw [List.map_map]
  conv => rhs; rw [← List.map_id o]
  exact List.map_congr_left fun x hx => by
   have := hm x hx
   show ((x.toNat : Nat) : Int) = x
   omega
theorem lig_ok {N : Nat} {o : List Int} (h1 : 1 ≤ N) (h4 : N ≤ 4) (hl : o.length = N) (hb : ∀ i, i < N → 0 ≤ gI o i ∧ gI o i ≤ 3) : vecB (ligV o) = true ∧ ∃ x, lenM (ligV o) = .ok x := by
 obtain ⟨R, hR, rfl⟩ := seq_of hl hb
 have h := List.all_eq_true.1 (chkL_ok h1 h4) R hR
 rw [Bool.and_eq_true] at h
 refine ⟨h.1, ?_⟩
 cases hx : lenM (ligV (R.map Int.ofNat)) with
 | ok x => exact ⟨x, rfl⟩
 | error c => rw [hx] at h; exact nomatch h.2
theorem pats_le {N p : Nat} (h1 : 1 ≤ N) (h4 : N ≤ 4) (hp : p ≤ 3) : (pats N p).length ≤ 20 := by
 rcases (by omega : N = 1 ∨ N = 2 ∨ N = 3 ∨ N = 4) with rfl | rfl | rfl | rfl <;> rcases (by omega : p = 0 ∨ p = 1 ∨ p = 2 ∨ p = 3) with rfl | rfl | rfl | rfl <;> decide +kernel
def vST (o : List Int) (N i : Nat) : List Nm := (ligV o).take i ++ List.replicate (N - i) Nm.zero
theorem vST_0 (o : List Int) (N : Nat) : vST o N 0 = List.replicate N Nm.zero := rfl
theorem vST_len {o : List Int} {N i : Nat} (hl : o.length = N) (hi : i ≤ N) : (vST o N i).length = N := by
 unfold vST
 rw [List.length_append, List.length_take, List.length_replicate, ligV_len]
 omega
theorem vST_N {o : List Int} {N : Nat} (hl : o.length = N) : vST o N N = ligV o := by
 unfold vST
 rw [Nat.sub_self, List.replicate_zero, List.append_nil, List.take_of_length_le (by rw [ligV_len]; omega)]
theorem vST_set {o : List Int} {N i : Nat} (hl : o.length = N) (hi : i < N) : (vST o N i).set i ⟨gI o i, 1, 0, 0, 0⟩ = vST o N (i + 1) := by
 unfold vST
 rw [show N - i = (N - (i + 1)) + 1 by omega, fill_set _ _ _ _ (by rw [List.length_take, ligV_len]; omega), List.take_succ]
 congr 2
 unfold ligV
 rw [List.getElem?_map]
 unfold gI
 rw [List.getD_eq_getElem?_getD, List.getElem?_eq_getElem (by omega)]
 rfl
theorem rem36 {b : Nat} (h : 36 % b = 0) : (36 : Int).tmod (b : Int) = 0 := by
 rw [Int.tmod_eq_emod_of_nonneg (by decide)]
 show ((36 : Nat) : Int) % (b : Int) = 0
 rw [← Int.natCast_emod, h]; rfl
theorem quo36 (b : Nat) : IntKind.i64.wrap ((36 : Int).tdiv (b : Int)) = ((36 / b : Nat) : Int) := by
 have h1 : (36 : Int).tdiv (b : Int) = ((36 / b : Nat) : Int) := by rw [Int.tdiv_eq_ediv_of_nonneg (by decide)]; rfl
 have h2 : 36 / b ≤ 36 := Nat.div_le_self 36 b
 rw [h1, IntKind.wrap_i64]
 generalize 36 / b = d at h2 ⊢
 omega
theorem SuO.fin {N p : Nat} {xs : List Nm} {i : List Int} {y : Nm} (h1 : 1 ≤ N) (h4 : N ≤ 4) (hp : p ≤ 3) (hu : UnC N (tb N xs)) (hi : i ∈ pats N p) (h : SuO N xs i (pats N p) (pats N p).length y) : wnum y = (cN 36, true) := by
 refine wnum_36 h.k0 ?_
 have hv := h.val
 rw [List.take_length] at hv
 rw [hv]
 exact all_36 h1 h4 hp hu hi
theorem SuO.fit382 {N : Nat} {xs : List Nm} {i : List Int} {l : List (List Int)} {j : Nat} {y : Nm} (h : SuO N xs i l j y) (hj : j ≤ 100) : y.Fit 9850501549098619803069760025035903451269934817616361666987073351061430442874302652853566563721228910201656997576704 := Nm.fit_mono h.bd.self (by omega)
theorem as_z {w : World} {g t : Nat} {xs : List Int} {cs : Array Value} (h : Hd w g t cs) (e : cs = (zs xs).toArray) : AS w (some ⟨g, 0, none⟩) (zs xs) :=
  fun _ => ⟨g, 0, rfl, h.lt, fun j _ => by rw [h.cell _, e, Nat.zero_add, List.getElem?_toArray]⟩
theorem ident1_any (w : World) : Calls Tryz.prog 30 #[.int .i64 1] w (RetM w 1 [Nm.one] 0) := by
 have h := identity_any 1 w
 rw [show identR 1 = .ok [Nm.one] from rfl] at h
 exact h
theorem ch1 : chV 1 [Nm.one] [2] [2] = .tuple #[nmV ⟨4, 0, 0, 0, 0⟩, .int .i64 4, .int .i64 0] := by kernel_rfl
theorem ch1_any (a a1 a2 : Option Addr) (c c1 c2 : Nat) (w : World) (hA : AS w a (nms [Nm.one])) (hP : AS w a1 (zs [2])) (hR : AS w a2 (zs [2])) : Calls Tryz.prog 10 #[.agg #[.int .i64 1, .slice a 1 c], .slice a1 1 c1, .slice a2 1 c2] w fun e w' => e = .returned (.tuple #[nmV ⟨4, 0, 0, 0, 0⟩, .int .i64 4, .int .i64 0]) ∧ Below w.heap.size w w' := by
 have h := mchance_any 1 [Nm.one] [2] [2] a a1 a2 c c1 c2 (by decide) (by decide) (by decide) w hA hP hR
 rw [ch1] at h
 exact h
theorem one_any  (w : World) : Calls Tryz.prog 6 #[] w fun e w' => e = .returned (.bool true) ∧ Below w.heap.size w w' := by
 go_enter Tryz.func6, Tryz.ntmps6
 refine wk_start ?_
 refine wk_seq ?_
 refine wk_region [0] rfl (by kernel_rfl) ?_
 simp only [qy]
 refine rg_assign ?_
 simp only [qz]
 refine rg_nil (ek_next (wk_seq ?_))
 refine wk_region [1, 0, 0, 0, 1, 1, 0] rfl (by kernel_rfl) ?_
 simp only [qy]
 apply rg_retM (by rfl) (by kernel_rfl)
 case hargs => (simp only [qm, qs, Act.eval]; exact rfl)
 case h => exact fun w hw => ident1_any w
 case hz => exact (fun _ h => by cases h)
 intro va1 vc1 u1 hO1
 simp only [qz]
 refine rg_move ?_
 simp only [qz]
 refine rf_extract rfl rfl rfl rfl ?_
 simp only [qz]
 refine rf_extract rfl rfl rfl rfl ?_
 simp only [qz]
 refine rg_new (cs := ?_) (ty := ?_) (by rfl) (fun w => ?_) (fun _ h => by cases h) (fun g2 => ?_); rotate_left 2
 focus (go_simp; rfl)
 simp only [qz]
 refine rf_storeR (n := 2) rfl rfl (by kernel_rfl) rfl rfl (UpdR.here _ _ _ (Nat.le_of_ble_eq_true rfl)) (fun _ h => by cases h) ?_
 simp only [qz, Nat.reduceAdd]
 refine rg_assign ?_
 simp only [qz]
 refine rg_nil (ek_next (wk_seq ?_))
 refine wk_region [0, 1, 1, 1, 0, 0, 0, 0, 1, 1, 0, 0] rfl (by kernel_rfl) ?_
 simp only [qy]
 refine rf_loadR (n := 2) rfl rfl rfl UU28 rfl (by kernel_rfl) (fun w hw => Kn.hd0 hw) rfl rfl ?_
 simp only [qz]
 refine rg_newS (cs := ?_) (ty := ?_) (n := 1) (c := 1) (by rfl) (fun w => ?_) (fun _ h => by cases h) (fun g3 => ?_); rotate_left 2
 focus (go_simp; rfl)
 simp only [qz]
 refine rg_newS (cs := ?_) (ty := ?_) (n := 1) (c := 1) (by rfl) (fun w => ?_) (fun _ h => by cases h) (fun g4 => ?_); rotate_left 2
 focus (go_simp; rfl)
 simp only [qz]
 apply rg_pure (by rfl) (by kernel_rfl)
 case hargs => (simp only [qm, qs, Act.eval]; exact rfl)
 case h => exact fun w hw => ch1_any va1 (some ⟨g3, 0, none⟩) (some ⟨g4, 0, none⟩) vc1 1 1 w (OwnN.asN hO1 (hw.perm (perm_atU (l := [_, _, _]) (u := u1) (List.Perm.refl _)))) (as_z (Kn.hd0 (Kn.tl hw)) rfl) (as_z (Kn.hd0 hw) rfl)
 case hz => exact (fun _ h => by cases h)
 simp only [qz]
 refine rg_move ?_
 simp only [qz]
 refine rf_extract rfl rfl rfl rfl ?_
 simp only [qz]
 refine rf_extract rfl rfl rfl rfl ?_
 simp only [qz]
 refine rf_extract rfl rfl rfl rfl ?_
 simp only [qz]
 refine rg_new (cs := ?_) (ty := ?_) (by rfl) (fun w => ?_) (fun _ h => by cases h) (fun g5 => ?_); rotate_left 2
 focus (go_simp; rfl)
 simp only [qz]
 refine rf_storeR (n := 5) rfl rfl (by kernel_rfl) rfl rfl (UpdR.here _ _ _ (Nat.le_of_ble_eq_true rfl)) (fun _ h => by cases h) ?_
 simp only [qz, Nat.reduceAdd]
 refine rg_assign ?_
 simp only [qz]
 refine rg_assign ?_
 simp only [qz]
 refine rg_nil (ek_next (wk_seq ?_))
 refine wk_region [0, 0, 0, 0, 0, 0, 0, 0, 0, 0, 0, 0, 0, 0, 0, 0, 0] rfl (by kernel_rfl) ?_
 simp only [qy]
 refine rg_move ?_
 simp only [qz]
 refine rf_eql (b := true) rfl rfl rfl rfl (by decide) ?_
 simp only [qz]
 refine rg_move ?_
 simp only [qz]
 apply rg_soft_g
 case hg => rfl
 case hy => (intro w hw; go_simp; (try go_bits); exact Yld.mk _ _)
 simp only [qz]
 refine rf_eql (b := true) rfl rfl rfl rfl (by decide) ?_
 simp only [qz]
 refine rf_pick rfl rfl rfl ?_
 simp only [qz]
 refine rg_move ?_
 simp only [qz]
 apply rg_soft_g
 case hg => rfl
 case hy => (intro w hw; go_simp; (try go_bits); exact Yld.mk _ _)
 simp only [qz]
 refine rf_eql (b := true) rfl rfl rfl rfl (by decide) ?_
 simp only [qz]
 refine rf_pick rfl rfl rfl ?_
 simp only [qz]
 refine rg_move ?_
 simp only [qz]
 refine rf_loadR (n := 5) rfl rfl rfl UU44 rfl (by kernel_rfl) (fun w hw => Kn.hd0 hw) rfl rfl ?_
 simp only [qz]
 refine rf_build (cs := fun a => #[a.eval (.const (.int .i64 4)), .int .i64 0, .int .i64 0, .int .i64 0]) rfl rfl (by kernel_rfl) ?_
 simp only [qz]
 refine rf_build (cs := fun a => #[cellAt (a.eval (.tmp 30)) 0, cellAt (a.eval (.tmp 30)) 1, cellAt (a.eval (.tmp 30)) 2, cellAt (a.eval (.tmp 30)) 3, .int .i64 0]) rfl rfl (by kernel_rfl) ?_
 simp only [qz]
 refine rf_eqN (u := ⟨4, 0, 0, 0, 0⟩) (v := ⟨4, 0, 0, 0, 0⟩) rfl rfl rfl rfl ?_
 rw [decide_eq_true (rfl : (⟨4, 0, 0, 0, 0⟩ : Nm) = ⟨4, 0, 0, 0, 0⟩)]
 simp only [qz]
 refine rf_pick rfl rfl rfl ?_
 simp only [qz]
 refine rg_assign ?_
 simp only [qz]
 refine rg_nil (ek_next (wk_ret ?_))
 refine ek_ret (fun w hw => ⟨rfl, _, res_t _ rfl, ?_⟩)
 (try simp only [qz])
 first | exact ⟨rfl, hw.below⟩ | exact ⟨trivial, hw.below⟩ | exact hw.below
theorem mapply_any (n : Int) (xs vs : List Nm) (a a' : Option Addr) (c c' : Nat) (hl : xs.length ≤ 1000000) (hl' : vs.length ≤ 1000000) (w : World) (hA : AS w a (nms xs)) (hB : AS w a' (nms vs)) : Calls Tryz.prog 56 #[.agg #[.int .i64 n, .slice a xs.length c], .slice a' vs.length c'] w fun e w' => RetV w (rL (appM n xs vs)) (rC (appM n xs vs)) e w' := by
 go_enter Tryz.func56, Tryz.ntmps56
 refine wk_start ?_
 refine wk_seq ?_
 refine wk_region [1, 1, 0, 0] rfl Kx ?_
 simp only [qy]
 refine Rgn fun g1 => ?_
 simp only [qz]
 refine Rgn fun g2 => ?_
 simp only [qz]
 refine rg_assign ?_
 simp only [qz]
 refine rg_assign ?_
 simp only [qz]
 refine rg_nil (ek_next (wk_seq (wk_block (wk_seq ?_))))
 refine wk_region [0, 1, 0, 0, 0, 1, 0, 0, 0] rfl Kx ?_
 simp only [qy]
 refine rf_loadR (n := 2) rfl rfl rfl UU28 rfl Kx (fun w hw => Kn.hd0 (Kn.tl hw)) rfl rfl ?_
 simp only [qz]
 apply rg_pureb Rx Kx
 case hargs => exact Ax
 case h => exact fun w hw => mvalid_any n xs a c hl w (hA.kn0 hw)
 case hz => exact Nz
 intro x h1
 cases x
 ·(try simp only [qd, ne_eq] at h1)
  simp only [qz]
  refine rf_not rfl rfl rfl ?_
  simp only [qz]
  refine rg_move ?_
  simp only [qz]
  refine rg_skip Rx ?_
  simp only [qz]
  refine rg_skip_h Rx Nz ?_
  simp only [qz]
  refine rg_skip Rx ?_
  simp only [qz]
  refine rf_pick rfl rfl rfl ?_
  simp only [qz]
  refine rg_assign ?_
  simp only [qz]
  refine rg_nil (ek_next (wk_cond_t rfl (wk_seq ?_)))
  refine wk_region [0, 0] rfl Kx ?_
  simp only [qy]
  refine rg_assign ?_
  simp only [qz]
  refine rg_assign ?_
  simp only [qz]
  refine rg_nil (ek_next (wk_ret (ek_block_ret (ek_then_ret ?_))))
  refine ek_ret (fun w hw => ⟨rfl, _, res_tt _ _ rfl, ?_⟩)
  (try simp only [qz])
  exact retV_err (c := 20) (by unfold appM; rw [h1]; rfl) hw.below
 (try simp only [qd, ne_eq] at h1)
 simp only [qz]
 have hv := h1
 obtain ⟨N, rfl, hN1, hN, hlx, hlx36, hox⟩ := validB_N' hv
 replace hlx := Lib.hid hlx
 refine rf_not rfl rfl rfl ?_
 simp only [qz]
 refine rg_move ?_
 simp only [qz]
 refine rf_load rfl rfl rfl UU26 rfl (fun w hw => (Kn.hd0 hw).at rfl) ?_
 simp only [qz]
 apply rg_pureb Rx Kx
 case hargs => exact Ax
 case h => exact fun w hw => mvector_any vs a' c' hl' w (hB.kn0 hw)
 case hz => exact Nz
 intro x h2
 cases x
 ·(try simp only [qd, ne_eq] at h2)
  simp only [qz]
  refine rf_not rfl rfl rfl ?_
  simp only [qz]
  refine rf_pick rfl rfl rfl ?_
  simp only [qz]
  refine rg_assign ?_
  simp only [qz]
  refine rg_nil (ek_next (wk_cond_t rfl (wk_seq ?_)))
  refine wk_region [0, 0] rfl Kx ?_
  simp only [qy]
  refine rg_assign ?_
  simp only [qz]
  refine rg_assign ?_
  simp only [qz]
  refine rg_nil (ek_next (wk_ret (ek_block_ret (ek_then_ret ?_))))
  refine ek_ret (fun w hw => ⟨rfl, _, res_tt _ _ rfl, ?_⟩)
  (try simp only [qz])
  exact retV_err (c := 20) (by unfold appM; rw [h2, Bool.and_false]; rfl) hw.below
 (try simp only [qd, ne_eq] at h2)
 simp only [qz]
 have hv2 := h2
 obtain ⟨hv1, hv6, hvo⟩ := vecB_y hv2
 refine rf_not rfl rfl rfl ?_
 simp only [qz]
 refine rf_pick rfl rfl rfl ?_
 simp only [qz]
 refine rg_assign ?_
 simp only [qz]
 refine rg_nil (ek_next (wk_cond_f rfl (wk_seq ?_)))
 refine wk_region [0, 0, 0, 0, 0, 0] rfl Kx ?_
 simp only [qy]
 refine rf_load rfl rfl rfl UU26 rfl (fun w hw => (Kn.hd0 hw).at rfl) ?_
 simp only [qz]
 refine rf_len rfl rfl rfl UU26 ?_
 simp only [qz]
 refine rf_field (n := 0) (j := 0) rfl rfl rfl UU28 rfl Kx rfl ?_
 simp only [qz]
 refine rf_load rfl rfl rfl UU3 rfl (fun w hw => (Kn.hd0 (Kn.tl hw)).at rfl) ?_
 simp only [qz]
 refine rfb_neq rfl rfl rfl rfl ?_
 intro x h3
 cases x
 ·(try simp only [qd, ne_eq] at h3)
  simp only [qz]
  obtain hlv : vs.length = N := by omega
  have hcp : appM (N : Int) xs vs = gather (appR N xs vs) N := by (unfold appM; rw [hv, hv2, Bool.and_self, if_pos rfl, if_pos Ox, Int.toNat_natCast])
  replace hcp := Lib.hid hcp
  replace hlv := Lib.hid hlv
  refine rg_assign ?_
  simp only [qz]
  refine rg_nil (ek_next (wk_cond_f rfl (wk_skip (ek_block (ek_next (wk_seq ?_))))))
  refine wk_region [0, 0, 1, 1] rfl Kx ?_
  simp only [qy]
  refine rf_loadR (n := 2) rfl rfl rfl UU28 rfl Kx (fun w hw => Kn.hd0 (Kn.tl hw)) rfl rfl ?_
  simp only [qz]
  refine rf_build (cs := fun a => #[cellAt (a.eval (.tmp 26)) 0, cellAt (a.eval (.tmp 26)) 1]) rfl rfl Kx ?_
  simp only [qz]
  refine Rgn fun g3 => ?_
  simp only [qz]
  refine rf_storeR (n := 2) rfl rfl Kx rfl rfl (UpdR.here _ _ _ Nl) Nz ?_
  simp only [qz, Nat.reduceAdd]
  refine rg_nil (ek_next (wk_seq ?_))
  refine wk_region [0] rfl Kx ?_
  simp only [qy]
  refine rg_assign ?_
  simp only [qz]
  refine rg_nil (ek_next (wk_seq (wk_seq ?_)))
  refine wk_region [0, 0, 0] rfl Kx ?_
  simp only [qy]
  refine rf_field (n := 0) (j := 0) rfl rfl rfl UU28 rfl Kx rfl ?_
  simp only [qz]
  refine rf_load rfl rfl rfl UU3 rfl (fun w hw => (Kn.hd0 (Kn.tl (Kn.tl hw))).at rfl) ?_
  simp only [qz]
  refine rg_move ?_
  simp only [qz]
  refine rg_nil (ek_next (wk_block ?_))
  refine wk_loopF [4, 5, 7, 8, 9, 10, 30, 31, 32, 33, 34, 35, 36, 37, 38, 39, 40, 41, 42, 43, 44, 45, 46, 47] (fun mz f s => ∃ (i : Nat) (l : List Nm) (u : List Blk) (av : Option Addr) (cv : Nat), f 7 = .slice av i cv ∧ f 30 = .int .i64 i ∧ s = (u ++ ((g3, .cells #[.int .i64 N, .slice a xs.length c] 79) :: ((g2, .cells #[.slice a' vs.length c'] 26) :: ((g1, .cells #[.int .i64 N, .slice a xs.length c] 28) :: [])))) ∧ mz = N - i ∧ i ≤ N ∧ Hid (gather (appR N xs vs) i = .ok l) ∧ OwnN u (.slice av i cv) l) ((fun (i : Nat) (l : List Nm) (u : List Blk) (av : Option Addr) (cv : Nat) => N - i) (0) ([]) ([]) (none) (0)) ?_ Kx ?_
  ·exact ⟨0, [], [], none, 0, rfl, rfl, rfl, rfl, by omega, (Lib.hid rfl), OwnG.nil⟩
  rintro mz f1 s ⟨i, l, u, av, cv, hs1_7, hs1_30, rfl, hn, hd1, hd2, hd3⟩
  simp only [Act.putF, List.foldl_cons, List.foldl_nil, hs1_7, hs1_30, Act.put, Act.eval, q1, q2, q3, q4, q5, q6, q7, q8, q9, q10, q11, q12, q13, q14, q15, q16, q17, q18, Nat.reduceAdd, Bool.not_true, Bool.not_false]
  clear hs1_7 hs1_30
  refine wk_seq ?_
  refine wk_region [0] rfl Kx ?_
  simp only [qy]
  refine rfb_lss rfl rfl rfl rfl ?_
  intro x h4
  cases x
  ·(try simp only [qd, ne_eq] at h4)
   simp only [qz]
   refine rg_nil (ek_next (wk_seq (wk_cond_f rfl (wk_exit (ek_then_exit (ek_then_exit (ek_block_exit (ek_next (wk_seq ?_)))))))))
   refine wk_region [0, 0, 0] rfl Kx ?_
   simp only [qy]
   refine rg_move ?_
   simp only [qz]
   refine rg_assign ?_
   simp only [qz]
   refine rg_assign ?_
   simp only [qz]
   refine rg_nil (ek_next (wk_ret ?_))
   refine ek_ret (fun w hw => ⟨rfl, _, res_tt _ _ rfl, ?_⟩)
   (try simp only [qz])
   obtain rfl : N = i := by omega
   rw [hcp.out, hd2.out]
   exact ⟨_, u, rfl, hd3, hw.made (List.sublist_append_left _ _)⟩
  (try simp only [qd, ne_eq] at h4)
  simp only [qz]
  refine rg_nil (ek_next (wk_seq (wk_cond_t rfl (wk_skip (ek_next (wk_seq (wk_block (wk_seq ?_))))))))
  refine wk_region [0, 1, 1] rfl Kx ?_
  simp only [qy]
  refine rg_move ?_
  simp only [qz]
  refine Rgn fun g4 => ?_
  simp only [qz]
  refine rf_store rfl rfl Kx rfl rfl (UpdR.here _ _ _ Nl) Nz ?_
  simp only [qz]
  refine rg_nil (ek_next (wk_seq ?_))
  refine wk_region [0, 0, 0, 1, 0, 0, 0, 1, 1, 0] rfl Kx ?_
  simp only [qy]
  refine rf_field (n := 0) (j := 0) rfl rfl rfl UU28 rfl Kx rfl ?_
  simp only [qz]
  refine rf_load rfl rfl rfl UU3 rfl (fun w hw => (Kn.hd0 (Kn.tl (Kn.tl (Kn.tlU (Kn.tl hw))))).at rfl) ?_
  simp only [qz]
  apply rg_soft
  case hy => (intro w hw; go_simp; (try go_bits); exact Yld.mk _ _)
  simp only [qz]
  apply rg_num Rx Kx
  case hargs => exact Ax
  case h => exact fun w hw => products_any N hN (fun j => nm xs (i * N + j)) (nm vs) _ (fun j hj => elemOk hox hlx.out Ox hj) (fun j hj => ok_at hvo (by have := hlv.out; omega)) w ⟨_, _, _, rfl, by kernel_rfl, fun w' hb vs' r ⟨j, hj, hvj, hr⟩ => by
    subst hvj hr
    have h := apply1_any xs vs a a' c c' N hN hlx i j g3 g4 g2 Ox hj (by have := hlv.out; omega) w' ((hA.kn0 hw).below hb) ((hB.kn0 hw).below hb) ((Kn.hd0 (Kn.tlU (Kn.tl hw))).belowS hb) ((Kn.hd0 hw).belowS hb) ((Kn.hd0 (Kn.tl (Kn.tlU (Kn.tl hw)))).belowS hb)
    simpa using h⟩
  case hz => exact Nz
  case hc => exact (fun c h => prodsR_code h)
  ·intro hr5
   simp only [qz]
   refine rg_move ?_
   simp only [qz]
   refine rf_extract rfl rfl rfl rfl ?_
   simp only [qz]
   refine rf_extract rfl rfl rfl rfl ?_
   simp only [qz]
   refine Rgn fun g5 => ?_
   simp only [qz]
   refine rf_storeR (n := 5) rfl rfl Kx rfl rfl (UpdR.here _ _ _ Nl) Nz ?_
   simp only [qz, Nat.reduceAdd]
   refine rg_assign ?_
   simp only [qz]
   refine rg_nil (ek_next (wk_seq (wk_seq ?_)))
   refine wk_region [0, 0] rfl Kx ?_
   simp only [qy]
   refine rg_move ?_
   simp only [qz]
   refine rf_neq (b := true) rfl rfl rfl rfl (by decide) ?_
   simp only [qz]
   refine rg_nil (ek_next (wk_cond_t rfl (wk_seq ?_)))
   refine wk_region [0, 0, 0] rfl Kx ?_
   simp only [qy]
   refine rg_move ?_
   simp only [qz]
   refine rg_assign ?_
   simp only [qz]
   refine rg_assign ?_
   simp only [qz]
   refine rg_nil (ek_next (wk_ret (ek_then_ret (ek_block_ret (ek_then_ret (ek_then_ret (ek_block_ret (ek_then_ret ?_))))))))
   refine ek_ret (fun w hw => ⟨rfl, _, res_tt _ _ rfl, ?_⟩)
   (try simp only [qz])
   exact retV_err (c := 4) (by rw [hcp.out]; exact gather_err hd2.out hr5 _ Ox) hw.below
  intro z5 hr5
  simp only [qz]
  refine rg_move ?_
  simp only [qz]
  refine rf_extract rfl rfl rfl rfl ?_
  simp only [qz]
  refine rf_extract rfl rfl rfl rfl ?_
  simp only [qz]
  refine Rgn fun g6 => ?_
  simp only [qz]
  refine rf_storeR (n := 5) rfl rfl Kx rfl rfl (UpdR.here _ _ _ Nl) Nz ?_
  simp only [qz, Nat.reduceAdd]
  refine rg_assign ?_
  simp only [qz]
  refine rg_nil (ek_next (wk_seq (wk_seq ?_)))
  refine wk_region [0, 0] rfl Kx ?_
  simp only [qy]
  refine rg_move ?_
  simp only [qz]
  refine rf_neq (b := false) rfl rfl rfl rfl (by decide) ?_
  simp only [qz]
  refine rg_nil (ek_next (wk_cond_f rfl (wk_skip (ek_next ?_))))
  refine wk_region [0, 0, 1, 1, 0] rfl Kx ?_
  simp only [qy]
  refine rg_move ?_
  simp only [qz]
  refine rf_loadR (n := 5) rfl rfl rfl UU44 rfl Kx (fun w hw => Kn.hd0 hw) rfl rfl ?_
  simp only [qz]
  refine rg_newS (cs := ?_) (ty := ?_) (n := 1) (c := 1) Rx (fun w => ?_) Nz (fun g7 => ?_); rotate_left 2
  focus (go_simp; rfl)
  simp only [qz]
  refine rg_appN' (xs := l) (x := z5) Rx rfl hd3 (gather_len hd2.out) rfl Ox (perm_atU (l := [_, _, _]) (u := u) (List.Perm.refl _)) (fun w hw => Kn.hd0 hw) Nz (fun uN1 aN1 cN1 hON1 => ?_)
  simp only [qz]
  refine rg_assign ?_
  simp only [qz]
  refine rg_nil (ek_block (ek_next ?_))
  refine wk_region [0, 0] rfl Kx ?_
  simp only [qy]
  refine rf_add rfl rfl rfl rfl (wrap_ok Ox Ox) ?_
  simp only [qz]
  refine rg_move ?_
  simp only [qz]
  refine rg_nil ?_
  refine ek_sub (List.Sublist.append_left (sk _ (sk _ (sk _ (sc _ (sc _ (sc _ sn)))))) _) ?_
  refine ek_roundF (N - (i + 1)) Ox Kx ?_
  exact ⟨i + 1, l ++ [z5], uN1, aN1, cN1, rfl, rfl, by rfl, by rfl, Ox, (Lib.hid (gather_ok hd2.out hr5)), hON1⟩
 (try simp only [qd, ne_eq] at h3)
 simp only [qz]
 refine rg_assign ?_
 simp only [qz]
 refine rg_nil (ek_next (wk_cond_t rfl (wk_seq ?_)))
 refine wk_region [0, 0] rfl Kx ?_
 simp only [qy]
 refine rg_assign ?_
 simp only [qz]
 refine rg_assign ?_
 simp only [qz]
 refine rg_nil (ek_next (wk_ret (ek_block_ret (ek_then_ret ?_))))
 refine ek_ret (fun w hw => ⟨rfl, _, res_tt _ _ rfl, ?_⟩)
 (try simp only [qz])
 exact retV_err (c := 21) (by unfold appM; rw [hv, hv2, Bool.and_self, if_pos rfl, if_neg Ox]) hw.below
theorem light1_any (z : Nm) (w : World) : Calls Tryz.prog 53 #[nmV z] w fun e w' => e = .returned (.bool (!z.okB)) ∧ Below w.heap.size w w' := by
 go_enter Tryz.func53, Tryz.ntmps53
 refine wk_start ?_
 refine wk_seq ?_
 refine wk_region [1, 0] rfl (by kernel_rfl) ?_
 simp only [qy]
 refine rg_new (cs := ?_) (ty := ?_) (by rfl) (fun w => ?_) (fun _ h => by cases h) (fun g1 => ?_); rotate_left 2
 focus (go_simp; rfl)
 simp only [qz]
 refine rg_assign ?_
 simp only [qz]
 refine rg_nil (ek_next (wk_seq ?_))
 refine wk_region [0, 1, 0, 0] rfl (by kernel_rfl) ?_
 simp only [qy]
 refine rf_loadR (n := 5) rfl rfl rfl UU44 rfl (by kernel_rfl) (fun w hw => Kn.hd0 hw) rfl rfl ?_
 simp only [qz]
 apply rg_pure (by rfl) (by kernel_rfl)
 case hargs => (simp only [qm, qs, Act.eval]; exact rfl)
 case h => exact fun w hw => amvalid_any z w
 case hz => exact (fun _ h => by cases h)
 simp only [qz]
 refine rf_not rfl rfl rfl ?_
 simp only [qz]
 refine rg_assign ?_
 simp only [qz]
 refine rg_nil (ek_next (wk_ret ?_))
 refine ek_ret (fun w hw => ⟨rfl, _, res_t _ rfl, ?_⟩)
 (try simp only [qz])
 first | exact ⟨rfl, hw.below⟩ | exact ⟨trivial, hw.below⟩ | exact hw.below
theorem index_lig (xs : List Nm) (a : Option Addr) (c : Nat) (hl : xs.length ≤ 1000000) (w : World) (hA : AS w a (nms xs)) : Calls Tryz.prog 94 #[.slice a xs.length c, .func (.func 53) #[] #[]] w fun e w' => ∃ i : Int, e = .returned (.int .i64 i) ∧ decide (0 ≤ i) = !allOk xs ∧ Below w.heap.size w w' := by
 go_enter Tryz.func94, Tryz.ntmps94
 refine wk_start ?_
 refine wk_seq ?_
 refine wk_region [0] rfl (by kernel_rfl) ?_
 simp only [qy]
 refine rg_assign ?_
 simp only [qz]
 refine rg_nil (ek_next (wk_seq (wk_seq ?_)))
 refine wk_region [0, 0, 0] rfl (by kernel_rfl) ?_
 simp only [qy]
 refine rg_move ?_
 simp only [qz]
 refine rf_len rfl rfl rfl UU26 ?_
 simp only [qz]
 refine rg_move ?_
 simp only [qz]
 refine rg_nil (ek_next (wk_block ?_))
 refine wk_loopF [4, 5, 8, 9, 10, 11, 12, 13, 14, 15, 16, 17, 18] (fun mz f s => ∃ (k : Nat), f 4 = .int .i64 0 ∧ f 8 = .int .i64 k ∧ s = [] ∧ mz = xs.length - k ∧ k ≤ xs.length ∧ (∀ j, j < k → (nm xs j).okB = true)) ((fun (k : Nat) => xs.length - k) (0)) ?_ (by kernel_rfl) ?_
 ·exact ⟨0, rfl, rfl, rfl, rfl, by omega, fun j hj => by omega⟩
 rintro mz f1 s ⟨k, hs1_4, hs1_8, rfl, hn, hd1, hd2⟩
 simp only [Act.putF, List.foldl_cons, List.foldl_nil, hs1_4, hs1_8, Act.put, Act.eval, q1, q2, q3, q4, q5, q6, q7, q8, q9, q10, q11, q12, q13, q14, q15, q16, q17, q18, Nat.reduceAdd, Bool.not_true, Bool.not_false]
 clear hs1_4 hs1_8
 refine wk_seq ?_
 refine wk_region [0] rfl (by kernel_rfl) ?_
 simp only [qy]
 refine rfb_lss rfl rfl rfl rfl ?_
 intro x h1
 cases x
 ·(try simp only [qd, ne_eq] at h1)
  simp only [qz]
  refine rg_nil (ek_next (wk_seq (wk_cond_f rfl (wk_exit (ek_then_exit (ek_then_exit (ek_block_exit (ek_next (wk_seq ?_)))))))))
  refine wk_region [0] rfl (by kernel_rfl) ?_
  simp only [qy]
  refine rg_assign ?_
  simp only [qz]
  refine rg_nil (ek_next (wk_ret ?_))
  refine ek_ret (fun w hw => ⟨rfl, _, res_t _ rfl, ?_⟩)
  (try simp only [qz])
  exact ⟨-1, rfl, by rw [allOk_true (fun j hj => hd2 j (by omega))]; simp, hw.below⟩
 (try simp only [qd, ne_eq] at h1)
 simp only [qz]
 obtain ⟨b, off, rfl, hlt, hcell⟩ := AS.openN hA (by omega)
 refine rg_nil (ek_next (wk_seq (wk_cond_t rfl (wk_skip (ek_next (wk_seq (wk_block (wk_seq ?_))))))))
 refine wk_region [0, 0] rfl (by kernel_rfl) ?_
 simp only [qy]
 refine rg_move ?_
 simp only [qz]
 refine rg_assign ?_
 simp only [qz]
 refine rg_nil (ek_next (wk_seq ?_))
 refine wk_region [0, 0, 0, 0, 0, 1] rfl (by kernel_rfl) ?_
 simp only [qy]
 refine rg_move ?_
 simp only [qz]
 refine rg_move ?_
 simp only [qz]
 refine rg_move ?_
 simp only [qz]
 refine rf_indexS (n := k) (sz := 5) (j := off + k * 5) rfl rfl rfl rfl UU26 (by kernel_rfl) (by omega) (by omega) rfl ?_
 simp only [qz]
 refine rf_loadC (n := 5) (vs := [.int .i64 (nm xs k).a, .int .i64 (nm xs k).b, .int .i64 (nm xs k).c, .int .i64 (nm xs k).d, .int .i64 (nm xs k).k]) rfl rfl rfl UU44 rfl (by kernel_rfl) rfl (fun w hw => atN_range ((hcell k (by omega)).kn hw hlt (by simp))) ?_
 simp only [qz]
 refine CV.rg_callVb (f := 53) (caps := #[]) (vs := #[nmV (nm xs k)]) (b := !(nm xs k).okB) (by rfl) rfl (by kernel_rfl) (by simp only [qm, qs, Act.eval] <;> rfl) (fun w hw => light1_any (nm xs k) w) (fun _ h => by cases h) ?_
 intro x h2
 cases x
 ·(try simp only [qd, ne_eq] at h2)
  simp only [qz]
  refine rg_nil (ek_next (wk_cond_f rfl (wk_skip (ek_block (ek_next ?_)))))
  refine wk_region [0, 0] rfl (by kernel_rfl) ?_
  simp only [qy]
  refine rf_add rfl rfl rfl rfl (wrap_ok (by omega) (by omega)) ?_
  simp only [qz]
  refine rg_move ?_
  simp only [qz]
  refine rg_nil ?_
  refine ek_roundF (xs.length - (k + 1)) (by omega) (by kernel_rfl) ?_
  exact ⟨k + 1, rfl, rfl, by rfl, by rfl, by omega, (fun j hj => by rcases (by omega : j < k ∨ j = k) with h | rfl; exact hd2 j h; simpa using h2)⟩
 (try simp only [qd, ne_eq] at h2)
 simp only [qz]
 refine rg_nil (ek_next (wk_cond_t rfl (wk_seq ?_)))
 refine wk_region [0, 0] rfl (by kernel_rfl) ?_
 simp only [qy]
 refine rg_move ?_
 simp only [qz]
 refine rg_assign ?_
 simp only [qz]
 refine rg_nil (ek_next (wk_ret (ek_block_ret (ek_then_ret (ek_then_ret (ek_block_ret (ek_then_ret ?_)))))))
 refine ek_ret (fun w hw => ⟨rfl, _, res_t _ rfl, ?_⟩)
 (try simp only [qz])
 exact ⟨(k : Int), rfl, by rw [allOk_false (k := k) (by omega) (by simpa using h2)]; simp, hw.below⟩
theorem contains_lig (xs : List Nm) (a : Option Addr) (c : Nat) (hl : xs.length ≤ 1000000) (w : World) (hA : AS w a (nms xs)) : Calls Tryz.prog 52 #[.slice a xs.length c, .func (.func 53) #[] #[]] w fun e w' => e = .returned (.bool (!allOk xs)) ∧ Below w.heap.size w w' := by
 go_enter Tryz.func52, Tryz.ntmps52
 refine wk_start ?_
 refine wk_seq ?_
 refine wk_region [0] rfl (by kernel_rfl) ?_
 simp only [qy]
 refine rg_assign ?_
 simp only [qz]
 refine rg_nil (ek_next (wk_seq ?_))
 refine wk_region [0, 0, 1, 0, 0] rfl (by kernel_rfl) ?_
 simp only [qy]
 refine rg_move ?_
 simp only [qz]
 refine rg_move ?_
 simp only [qz]
 apply rg_call (by rfl) (by kernel_rfl)
 case hargs => (simp only [qm, qs, Act.eval]; exact rfl)
 refine fun w hw => (index_lig xs a c hl w (hA.kn0 hw)).mono ?_
 rintro e w' ⟨i, rfl, hi, hb⟩
 refine ⟨_, _, rfl, hw.call hb, (fun _ h => by cases h), ?_⟩
 simp only [qz]
 refine rf_geq rfl rfl rfl rfl rfl ?_
 simp only [qz]
 refine rg_assign ?_
 simp only [qz]
 refine rg_nil (ek_next (wk_ret ?_))
 refine ek_ret (fun w hw => ⟨rfl, _, res_t _ rfl, ?_⟩)
 (try simp only [qz])
 exact ⟨by rw [← hi], hw.below⟩
theorem mlight_any (N : Nat) (xs : List It) (vs : List Nm) (a a' : Option Addr) (c c' : Nat) (hN1 : 1 ≤ N) (hN6 : N ≤ 6) (hlx : xs.length ≤ 5000) (hfit : ∀ j, j < xs.length → fitB N (it xs j) = true) (hvs : vecB vs = true) (hvn : Hid (vs.length = N)) (hv1 : vs.length ≤ N ∧ N ≤ vs.length) (w : World) (hA : AS w a (its xs)) (hB : AS w a' (nms vs)) : Calls Tryz.prog 16 #[.int .i64 N, .slice a xs.length c, .slice a' vs.length c'] w fun e w' => RetV w (rL (liS N xs vs xs.length)) (rC (liS N xs vs xs.length)) e w' := by
 obtain ⟨hvl, hvl6, hvo⟩ := vecB_y hvs
 obtain ⟨b', off', rfl, hlt', -⟩ := AS.openN hB (by omega)
 have hfa : ∀ x ∈ xs, fitB N x = true := fun x hx => by
  obtain ⟨j, hj, rfl⟩ := List.getElem_of_mem hx
  have := hfit j hj
  unfold it at this
  rwa [List.getD_eq_getElem?_getD, List.getElem?_eq_getElem hj] at this
 have hie := Lib.hid (itemE_fits hN1 hN6 hlx hfa)
 clear hfa
 go_enter Tryz.func16, Tryz.ntmps16
 refine wk_start ?_
 refine wk_seq ?_
 refine wk_region [0, 0] rfl (by kernel_rfl) ?_
 simp only [qy]
 refine rg_assign ?_
 simp only [qz]
 refine rg_assign ?_
 simp only [qz]
 refine rg_nil (ek_next (wk_seq (wk_seq ?_)))
 refine wk_region [0, 0, 1, 0] rfl (by kernel_rfl) ?_
 simp only [qy]
 refine rg_move ?_
 simp only [qz]
 refine rg_move ?_
 simp only [qz]
 apply rg_pure (by rfl) (by kernel_rfl)
 case hargs => (simp only [qm, qs, Act.eval]; exact rfl)
 case h => exact fun w hw => by have := mcheck_any N xs a c w (hA.kn0 hw); rw [hie.out] at this; exact this
 case hz => exact (fun _ h => by cases h)
 simp only [qz]
 refine rg_assign ?_
 simp only [qz]
 refine rg_nil (ek_next (wk_seq ?_))
 refine wk_region [0, 0] rfl (by kernel_rfl) ?_
 simp only [qy]
 refine rg_move ?_
 simp only [qz]
 refine rf_neq (b := false) rfl rfl rfl rfl (by decide) ?_
 simp only [qz]
 refine rg_nil (ek_next (wk_cond_f rfl (wk_skip (ek_next (wk_seq (wk_block (wk_seq ?_)))))))
 refine wk_region [0, 0, 1, 0, 0, 0, 1, 0, 0] rfl (by kernel_rfl) ?_
 simp only [qy]
 refine rg_move ?_
 simp only [qz]
 refine rf_len rfl rfl rfl UU26 ?_
 simp only [qz]
 apply rg_pure (by rfl) (by kernel_rfl)
 case hargs => (simp only [qm, qs, Act.eval]; exact rfl)
 case h => exact fun w hw => by have := between_mesh 1 (vs.length : Int) 6 w; rw [show betB 1 (vs.length : Int) 6 = true from decide_eq_true (by omega)] at this; exact this
 case hz => exact (fun _ h => by cases h)
 simp only [qz]
 refine rf_not rfl rfl rfl ?_
 simp only [qz]
 refine rg_move ?_
 simp only [qz]
 apply rg_soft_g
 case hg => rfl
 case hy => (intro w hw; go_simp; (try go_bits); exact Yld.mk _ _)
 simp only [qz]
 apply rg_pure (by rfl) (by kernel_rfl)
 case hargs => (simp only [qm, qs, Act.eval]; exact rfl)
 case h => exact fun w hw => by have := contains_lig vs (some ⟨b', off', none⟩) c' (by omega) w (hB.kn0 hw); rw [hvo] at this; exact this
 case hz => exact (fun _ h => by cases h)
 simp only [qz]
 refine rf_pick rfl rfl rfl ?_
 simp only [qz]
 refine rg_assign ?_
 simp only [qz]
 refine rg_nil (ek_next (wk_cond_f rfl (wk_seq ?_)))
 refine wk_region [0, 0, 0, 0, 0] rfl (by kernel_rfl) ?_
 simp only [qy]
 refine rg_move ?_
 simp only [qz]
 refine rf_len rfl rfl rfl UU26 ?_
 simp only [qz]
 refine rg_move ?_
 simp only [qz]
 refine rfb_neq rfl rfl rfl rfl ?_
 intro x h1
 obtain rfl : x = false := by (refine h1.symm.trans ?_; exact decide_eq_false (by omega))
 clear h1
 simp only [qz]
 refine rg_assign ?_
 simp only [qz]
 refine rg_nil (ek_next (wk_cond_f rfl (wk_skip (ek_block (ek_next (wk_seq ?_))))))
 refine wk_region [0, 1, 0] rfl (by kernel_rfl) ?_
 simp only [qy]
 refine rg_move ?_
 simp only [qz]
 apply rg_made (T := fun v u => OwnN u v vs) (by rfl) (by kernel_rfl)
 case hargs => (simp only [qm, qs, Act.eval]; exact rfl)
 case h => exact fun w hw => (clonek_any vs.length b' off' c' vs (Lib.hid rfl) (by omega) w (hB.kn0 hw)).mono (fun e w' ⟨v, u, he, hO, hm⟩ => ⟨v, u, he, hO, hm⟩)
 case hz => exact (fun _ h => by cases h)
 intro v2 u2 hO2
 obtain ⟨aV, cV, rfl, -⟩ := Own.val hO2
 have hO2' : OwnN u2 (.slice aV vs.length cV) vs := hO2
 clear hO2
 simp only [qz]
 refine rg_assign ?_
 simp only [qz]
 refine rg_nil (ek_next (wk_seq (wk_seq ?_)))
 refine wk_region [0, 0, 0] rfl (by kernel_rfl) ?_
 simp only [qy]
 refine rg_move ?_
 simp only [qz]
 refine rf_len rfl rfl rfl UU22 ?_
 simp only [qz]
 refine rg_move ?_
 simp only [qz]
 refine rg_nil (ek_next (wk_block ?_))
 refine wk_loopF [6, 7, 9, 11, 12, 13, 38, 39, 40, 41, 42, 43, 44, 45, 46, 47, 48, 49, 50, 51, 52, 53, 54, 55, 56, 57] (fun mz f s => ∃ (i : Nat) (l : List Nm) (va : Option Addr) (vc : Nat) (u : List Blk), f 9 = .slice va l.length vc ∧ f 38 = .int .i64 i ∧ s = (u ++ []) ∧ mz = xs.length - i ∧ i ≤ xs.length ∧ Hid (liS N xs vs i = .ok l) ∧ OwnN u (.slice va l.length vc) l) ((fun (i : Nat) (l : List Nm) (va : Option Addr) (vc : Nat) (u : List Blk) => xs.length - i) (0) (vs) (aV) (cV) (u2)) ?_ (by kernel_rfl) ?_
 ·exact ⟨0, vs, aV, cV, u2, rfl, rfl, rfl, rfl, by omega, Lib.hid rfl, hO2'⟩
 rintro mz f1 s ⟨i, l, va, vc, u, hs1_9, hs1_38, rfl, hn, hd1, hd2, hd3⟩
 simp only [Act.putF, List.foldl_cons, List.foldl_nil, hs1_9, hs1_38, Act.put, Act.eval, q1, q2, q3, q4, q5, q6, q7, q8, q9, q10, q11, q12, q13, q14, q15, q16, q17, q18, Nat.reduceAdd, Bool.not_true, Bool.not_false]
 clear hs1_9 hs1_38
 obtain ⟨hvl1, hll, -⟩ := liS_ok hN1 hN6 hfit hvs hvn.out i hd1 hd2.out
 replace hll := Lib.hid hll
 obtain ⟨-, hl6, -⟩ := vecB_y hvl1
 refine wk_seq ?_
 refine wk_region [0] rfl (by kernel_rfl) ?_
 simp only [qy]
 refine rfb_lss rfl rfl rfl rfl ?_
 intro x h2
 cases x
 ·(try simp only [qd, ne_eq] at h2)
  simp only [qz]
  refine rg_nil (ek_next (wk_seq (wk_cond_f rfl (wk_exit (ek_then_exit (ek_then_exit (ek_block_exit (ek_next (wk_seq ?_)))))))))
  refine wk_region [0, 0, 0] rfl (by kernel_rfl) ?_
  simp only [qy]
  refine rg_move ?_
  simp only [qz]
  refine rg_assign ?_
  simp only [qz]
  refine rg_assign ?_
  simp only [qz]
  refine rg_nil (ek_next (wk_ret ?_))
  refine ek_ret (fun w hw => ⟨rfl, _, res_tt _ _ rfl, ?_⟩)
  (try simp only [qz])
  obtain rfl : i = xs.length := by omega
  rw [hd2.out]
  exact ⟨_, u, rfl, hd3, hw.made (List.sublist_append_left _ _)⟩
 (try simp only [qd, ne_eq] at h2)
 simp only [qz]
 refine rg_nil (ek_next (wk_seq (wk_cond_t rfl (wk_skip (ek_next (wk_seq (wk_block (wk_seq ?_))))))))
 obtain ⟨b, off, rfl, hlt, hcell⟩ := AS.openT hA (by omega)
 obtain ⟨x, hx⟩ : ∃ x, it xs i = x := ⟨_, rfl⟩
 have hit := hcell i (by omega)
 have hfx := hfit i (by omega)
 rw [hx] at hit hfx
 have hfo := fit_own hfx
 replace hx := Lib.hid hx
 refine wk_region [0, 0, 1, 1] rfl (by kernel_rfl) ?_
 simp only [qy]
 refine rf_indexS (n := i) (sz := 4) (j := off + i * 4) rfl rfl rfl rfl UU22 (by kernel_rfl) (by omega) (by omega) rfl ?_
 simp only [qz]
 refine rf_loadC (n := 4) (vs := itC x) rfl rfl rfl UU72 rfl (by kernel_rfl) rfl (fun w hw => itAt_range (hit.kn hw hlt (by simp))) ?_
 simp only [qz]
 refine rg_new (cs := ?_) (ty := ?_) (by rfl) (fun w => ?_) (fun _ h => by cases h) (fun g1 => ?_); rotate_left 2
 focus (go_simp; rfl)
 simp only [qz]
 refine rf_storeR (n := 4) rfl rfl (by kernel_rfl) rfl rfl (UpdR.here _ _ _ (Nat.le_of_ble_eq_true rfl)) (fun _ h => by cases h) ?_
 simp only [qz, Nat.reduceAdd]
 refine rg_nil (ek_next (wk_seq ?_))
 refine wk_draws _ _ [(0, 0), (1, 0), (2, 0), (3, 0), (6, 0), (4, 1), (5, 1), (7, 1), (8, 0), (9, 0), (10, 0), (11, 0), (12, 0)] [] (by kernel_rfl) (by kernel_rfl) (fun c d v a w h => by cases d <;> exact h) ((sc _ (List.Sublist.append_left sn _))) (fun e => by first | exact absurd e (by decide) | rfl) ?_
 simp only [List.map_cons, List.map_nil, List.getD_cons_zero, List.getD_cons_succ]
 refine rg_move ?_
 simp only [qz]
 refine rf_field (n := 0) (j := 1) rfl rfl rfl UU72 rfl (by kernel_rfl) rfl ?_
 simp only [qz]
 refine rf_load rfl rfl rfl UU3 rfl (fun w hw => (Kn.hd0 hw).at rfl) ?_
 simp only [qz]
 refine rf_loadR (n := 4) rfl rfl rfl UU72 rfl (by kernel_rfl) (fun w hw => Kn.hd0 hw) rfl rfl ?_
 simp only [qz]
 refine rg_move ?_
 simp only [qz]
 apply rg_retM1 (by rfl) (by kernel_rfl)
 case hargs => (simp only [qm, qs, Act.eval]; exact rfl)
 case h => exact fun w hw => own_any x w
 case hz => exact (fun _ h => by cases h; exact (sc _ (List.Sublist.append_left sn _)))
 intro va2 vc2 u2 hO2
 simp only [qz]
 apply (rg_retM1 (n := (N : Int)) (zs := itL N x)) (by rfl) (by kernel_rfl)
 case hargs => (simp only [qm, qs, Act.eval]; exact rfl)
 case h => exact fun w hw => mplaced_int N (x.at_ - 1).toNat (ownN x) x.at_ (ownL x) va2 vc2 hfo.2.2.2.2 hN1 hN6 hfo.2.2.1 hfo.2.1 (Lib.hid (ownL_len x)) w (hO2.asM (hw.perm (List.Perm.refl _)))
 case hz => exact (fun _ h => by cases h; exact ((sc _ (List.Sublist.append_left sn _)).trans (List.sublist_append_right _ _)))
 intro va3 vc3 u3 hO3
 simp only [qz]
 apply rg_retV (by rfl) (by kernel_rfl)
 case hargs => (simp only [qm, qs, Act.eval]; exact rfl)
 case h => exact fun w hw => mapply_any N (itL N x) l va3 va vc3 vc (by have := itL_len hN1 hN6 x; have := Nat.mul_le_mul hN6 hN6; omega) (by omega) w (hO3.asM (hw.perm (List.Perm.refl _))) (OwnN.asN hd3 (hw.perm ((((((((List.Perm.refl _).cons _).trans (List.perm_middle (l₁ := u)).symm).append_left _).trans (List.perm_append_comm_assoc u2 u _)).append_left _).trans (List.perm_append_comm_assoc u3 u _)).trans ((List.Perm.refl _).append_left _))))
 case hz => exact (fun _ h => by cases h; exact (((sc _ (List.Sublist.append_left sn _)).trans (List.sublist_append_right _ _)).trans (List.sublist_append_right _ _)))
 intro va4 vc4 u4 hO4
 simp only [qz]
 refine rg_move ?_
 simp only [qz]
 refine rf_extract rfl rfl rfl rfl ?_
 simp only [qz]
 refine rf_extract rfl rfl rfl rfl ?_
 simp only [qz]
 refine rg_assign ?_
 simp only [qz]
 refine rg_assign ?_
 simp only [qz]
 refine rg_nil (ek_next (wk_seq (wk_seq ?_)))
 refine wk_region [0, 0] rfl (by kernel_rfl) ?_
 simp only [qy]
 refine rg_move ?_
 simp only [qz]
 refine rfb_neq rfl rfl rfl rfl ?_
 intro x h3
 cases x
 ·(try simp only [qd, ne_eq] at h3)
  simp only [qz]
  obtain ⟨l2, hap, -⟩ := appM_ok (itL_valid hN1 hN6 x) (by simpa using h3)
  rw [hap] at hO4 ⊢
  simp only [rL, rC] at hO4 ⊢
  refine rg_nil (ek_next (wk_cond_f rfl (wk_skip (ek_next ?_))))
  refine wk_region [0, 0] rfl (by kernel_rfl) ?_
  simp only [qy]
  refine rg_move ?_
  simp only [qz]
  refine rg_assign ?_
  simp only [qz]
  refine rg_nil (ek_block (ek_next ?_))
  refine wk_region [0, 0] rfl (by kernel_rfl) ?_
  simp only [qy]
  refine rf_add rfl rfl rfl rfl (wrap_ok (by omega) (by omega)) ?_
  simp only [qz]
  refine rg_move ?_
  simp only [qz]
  refine rg_nil ?_
  refine ek_sub (List.Sublist.append_left (((sk _ (sn.trans (List.sublist_append_right _ _))).trans (List.sublist_append_right _ _)).trans (List.sublist_append_right _ _)) _) ?_
  refine ek_roundF (xs.length - (i + 1)) (by omega) (by kernel_rfl) ?_
  exact ⟨i + 1, l2, va4, vc4, u4, rfl, rfl, by rfl, by rfl, (by omega), (Lib.hid (by rw [liS, hd2.out, hx.out]; exact hap)), hO4⟩
 (try simp only [qd, ne_eq] at h3)
 simp only [qz]
 refine rg_nil (ek_next (wk_cond_t rfl (wk_seq ?_)))
 refine wk_region [0, 0, 0] rfl (by kernel_rfl) ?_
 simp only [qy]
 refine rg_move ?_
 simp only [qz]
 refine rg_assign ?_
 simp only [qz]
 refine rg_assign ?_
 simp only [qz]
 refine rg_nil (ek_next (wk_ret (ek_then_ret (ek_block_ret (ek_then_ret (ek_then_ret (ek_block_ret (ek_then_ret ?_))))))))
 refine ek_ret (fun w hw => ⟨rfl, _, res_tt _ _ rfl, ?_⟩)
 (try simp only [qz])
 have hle : ∃ cc, appM N (itL N x) l = .error cc := by
  cases hap : appM N (itL N x) l with
  | ok l2 => rw [hap] at h3; exact absurd rfl h3
  | error cc => exact ⟨cc, rfl⟩
 obtain ⟨cc, hap⟩ := hle
 have hs : liS N xs vs (i + 1) = .error cc := by rw [liS, hd2.out, hx.out]; exact hap
 rw [liS_err hs xs.length (by omega), hap]
 exact ⟨.slice none 0 0, [], rfl, OwnG.nil, .nil hw.below⟩
end Go.Proofs.YthjjkajjpejcdaaGreat
