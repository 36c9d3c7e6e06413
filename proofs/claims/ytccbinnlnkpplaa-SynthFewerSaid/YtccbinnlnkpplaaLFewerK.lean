/- Texts in one: Pg9, SmE, Fw3, FrmT. -/
import Derived.Test.YtccbinnlnkpplaaLFewerJ
import Derived.Deep.Slices
import Derived.Lib.SmallJoins
namespace Go.Proofs.Ytccbinnlnkpplaa
set_option linter.all false
open Go.RowKit

theorem dag_k {N : Nat} {xs zs : List Nm} (hv : validB N xs = true) (hz : validB N zs = true) (ht : ∀ i k, i < N → k < N → tb N zs i k = Q4.conj (tb N xs k i)) {i k : Nat} (hi : i < N) (hk : k < N) : (nm zs (i * N + k)).k ≤ expo xs := by
  obtain ⟨N', e, h1, h6, hx, -, ho⟩ := validB_true hv
  obtain rfl : N' = N := by omega
  obtain ⟨N'', e2, -, -, -, -, ho2⟩ := validB_true hz
  have o1 : (nm xs (k * N' + i)).Ok := nm_okA ho _
  have o2 : (nm zs (i * N' + k)).Ok := nm_okA ho2 _
  have h := ht i k hi hk
  unfold tb at h
  rw [← val_conj] at h
  rw [val_ok o2 (conj_ok o1) h]
  show (nm xs (k * N' + i)).k ≤ _
  refine (expo_ok ho).2.2 _ (NmE.at_mem ?_)
  rw [hx]
  exact ix_lt hk hi
theorem cb_start {N : Nat} {z : Zt} {K : Int} (hN : N ≤ 4) (h1 : 1 ≤ N) (hK : K ≤ mostN N) (hz : ∀ i k, i < N → k < N → (z i k).k ≤ K) : Cb N 0 z := by
  rcases (by omega : N = 1 ∨ N = 2 ∨ N = 3 ∨ N = 4) with rfl | rfl | rfl | rfl
  · exact .inl (by omega)
  · exact .inl (by omega)
  · exact .inr ⟨12, .inl ⟨rfl, by omega⟩, fun i k _ hi hk => by have := hz i k hi hk; have e : mostN 3 = 12 := rfl; omega⟩
  exact .inr ⟨4, .inr ⟨rfl, by omega⟩, fun i k _ hi hk => by have := hz i k hi hk; have e : mostN 4 = 4 := rfl; omega⟩
set_option maxRecDepth 100000 in
set_option maxHeartbeats 1000000 in
theorem prog_yes (N : Nat) (xs : List Nm) (a : Option Addr) (c : Nat) (hl : xs.length ≤ 1000000) (hv : Hid (validB (N : Int) xs = true)) (hN : ¬ (N : Int) > 4) (hk : ¬ expo xs > mostN N) (hu : Hid (unB (N : Int) xs = true)) (w : World) (hA : AS w a (nms xs)) : Calls Try.prog 59 #[.agg #[.int .i64 N, .slice a xs.length c]] w fun e w' => ∃ L, ProgL N xs L ∧ RetS w L 0 e w' := by
  have hex : Hid (expR (N : Int) xs = (expo xs, 0)) := Lib.hid (by unfold expR; rw [hv.out, if_pos rfl])
  obtain ⟨-, hN1, hN6', hxl⟩ : True ∧ 1 ≤ N ∧ N ≤ 6 ∧ xs.length = N * N := by
    obtain ⟨N', e, h1, h6, hx, -⟩ := validB_true hv.out
    obtain rfl : N' = N := by omega
    exact ⟨trivial, h1, h6, hx⟩
  obtain ⟨zs, hdg, hzv, hzt⟩ := dagM_ok (N := N) hv.out
  obtain ⟨-, hzl, hzo⟩ : True ∧ zs.length = N * N ∧ allOk zs = true := by
    obtain ⟨N', e, -, -, hx, -, ho⟩ := validB_true hzv
    obtain rfl : N' = N := by omega
    exact ⟨trivial, hx, ho⟩
  have hz36 : zs.length ≤ 36 := by rw [hzl]; exact Nat.mul_le_mul hN6' hN6'
  have hz1 : 1 ≤ zs.length := by rw [hzl]; exact Nat.mul_le_mul hN1 hN1
  replace hzl := Lib.hid hzl
  replace hxl := Lib.hid hxl
  replace hdg := Lib.hid hdg
  refine calls_marks Try.func59 rfl ?_
  simp only [Try.ntmps59, List.size_toArray, List.length_cons, List.length_nil, Nat.reduceAdd, Nat.reduceSub, Array.replicate_succ, Array.replicate_zero, List.push_toArray, List.append_toArray, List.nil_append, List.cons_append]
  refine wk_seq ?_
  refine wk_region [1, 0, 0] rfl (by kernel_rfl) ?_
  simp only [qy]
  refine rg_new (cs := ?_) (ty := ?_) (by rfl) (fun w => ?_) (fun _ h => by cases h) (fun g1 => ?_); rotate_left 2
  focus (go_simp; rfl)
  simp only [qz]
  refine rg_assign ?_
  simp only [qz]
  refine rg_assign ?_
  simp only [qz]
  refine rg_nil (ek_next (wk_seq (wk_seq ?_)))
  refine wk_region [0, 1, 0] rfl (by kernel_rfl) ?_
  simp only [qy]
  refine rf_loadR (n := 2) rfl rfl rfl Try.underlying38 rfl (by kernel_rfl) (fun w hw => Kn.hd0 hw) rfl rfl ?_
  simp only [qz]
  apply rg_pure (by rfl) (by kernel_rfl)
  case hargs => (simp only [qm, qs, Act.eval]; exact rfl)
  case h => exact fun w hw => by have := mvalid_any (N : Int) xs a c hl w (hA.kn0 hw); rw [hv.out] at this; exact this
  case hz => exact (fun _ h => by cases h)
  simp only [qz]
  refine rf_not rfl rfl rfl ?_
  simp only [qz]
  refine rg_nil (ek_next (wk_cond_f rfl (wk_skip (ek_next (wk_seq ?_)))))
  refine wk_region [0, 1, 0, 0, 0, 0, 0] rfl (by kernel_rfl) ?_
  simp only [qy]
  refine rf_loadR (n := 2) rfl rfl rfl Try.underlying38 rfl (by kernel_rfl) (fun w hw => Kn.hd0 hw) rfl rfl ?_
  simp only [qz]
  apply rg_pure (by rfl) (by kernel_rfl)
  case hargs => (simp only [qm, qs, Act.eval]; exact rfl)
  case h => exact fun w hw => by have := mExponent_any (N : Int) xs a c hl w (hA.kn0 hw); rw [hex.out] at this; exact this
  case hz => exact (fun _ h => by cases h)
  simp only [qz]
  refine rg_move ?_
  simp only [qz]
  refine rf_extract rfl rfl rfl rfl ?_
  simp only [qz]
  refine rf_extract rfl rfl rfl rfl ?_
  simp only [qz]
  refine rg_assign ?_
  simp only [qz]
  refine rg_assign ?_
  simp only [qz]
  refine rg_nil (ek_next (wk_seq (wk_seq ?_)))
  refine wk_region [0, 0, 0, 0, 0, 0, 0, 1, 0, 0] rfl (by kernel_rfl) ?_
  simp only [qy]
  refine rf_field (n := 0) (j := 0) rfl rfl rfl Try.underlying38 rfl (by kernel_rfl) rfl ?_
  simp only [qz]
  refine rf_load rfl rfl rfl Try.underlying3 rfl (fun w hw => (Kn.hd0 hw).at rfl) ?_
  simp only [qz]
  refine rfb_gtr rfl rfl rfl rfl ?_
  intro x h1
  obtain rfl : x = false := by (refine h1.symm.trans ?_; exact decide_eq_false (by omega))
  clear h1
  simp only [qz]
  refine rg_move ?_
  simp only [qz]
  apply rg_soft_g
  case hg => rfl
  case hy => (intro w hw; go_simp; (try go_bits); exact Yld.mk _ _)
  simp only [qz]
  refine rf_field (n := 0) (j := 0) rfl rfl rfl Try.underlying38 rfl (by kernel_rfl) rfl ?_
  simp only [qz]
  refine rf_load rfl rfl rfl Try.underlying3 rfl (fun w hw => (Kn.hd0 hw).at rfl) ?_
  simp only [qz]
  apply rg_pure (by rfl) (by kernel_rfl)
  case hargs => (simp only [qm, qs, Act.eval]; exact rfl)
  case h => exact fun w hw => most_any N (by omega) w
  case hz => exact (fun _ h => by cases h)
  simp only [qz]
  refine rfb_gtr rfl rfl rfl rfl ?_
  intro x h2
  obtain rfl : x = false := by (refine h2.symm.trans ?_; exact decide_eq_false (by omega))
  clear h2
  simp only [qz]
  refine rf_pick rfl rfl rfl ?_
  simp only [qz]
  refine rg_nil (ek_next (wk_cond_f rfl (wk_skip (ek_next (wk_seq (wk_seq ?_))))))
  refine wk_region [0, 1, 0, 0, 0, 0, 0] rfl (by kernel_rfl) ?_
  simp only [qy]
  refine rf_loadR (n := 2) rfl rfl rfl Try.underlying38 rfl (by kernel_rfl) (fun w hw => Kn.hd0 hw) rfl rfl ?_
  simp only [qz]
  apply rg_pure (by rfl) (by kernel_rfl)
  case hargs => (simp only [qm, qs, Act.eval]; exact rfl)
  case h => exact fun w hw => sunitary_yes (N : Int) xs a c hl hv hu w (hA.kn0 hw)
  case hz => exact (fun _ h => by cases h)
  simp only [qz]
  refine rg_move ?_
  simp only [qz]
  refine rf_extract rfl rfl rfl rfl ?_
  simp only [qz]
  refine rf_extract rfl rfl rfl rfl ?_
  simp only [qz]
  refine rg_assign ?_
  simp only [qz]
  refine rg_assign ?_
  simp only [qz]
  refine rg_nil (ek_next (wk_seq ?_))
  refine wk_region [0, 0] rfl (by kernel_rfl) ?_
  simp only [qy]
  refine rg_move ?_
  simp only [qz]
  refine rf_neq (b := false) rfl rfl rfl rfl (by decide) ?_
  simp only [qz]
  refine rg_nil (ek_next (wk_cond_f rfl (wk_skip (ek_next (wk_seq ?_)))))
  refine wk_region [0, 1, 0, 0, 0, 1, 1, 0] rfl (by kernel_rfl) ?_
  simp only [qy]
  refine rf_loadR (n := 2) rfl rfl rfl Try.underlying38 rfl (by kernel_rfl) (fun w hw => Kn.hd0 hw) rfl rfl ?_
  simp only [qz]
  apply (rg_retM (n := (N : Int)) (zs := zs) (c := 0)) (by rfl) (by kernel_rfl)
  case hargs => (simp only [qm, qs, Act.eval]; exact rfl)
  case h => exact fun w hw => by have := mdagger_any (N : Int) xs a c hl w (hA.kn0 hw); rw [hdg.out, Int.toNat_natCast] at this; exact this
  case hz => exact (fun _ h => by cases h)
  intro va2 vc2 u2 hO2
  simp only [qz]
  refine rg_move ?_
  simp only [qz]
  refine rf_extract rfl rfl rfl rfl ?_
  simp only [qz]
  refine rf_extract rfl rfl rfl rfl ?_
  simp only [qz]
  refine rg_new (cs := ?_) (ty := ?_) (by rfl) (fun w => ?_) (fun _ h => by cases h) (fun g3 => ?_); rotate_left 2
  focus (go_simp; rfl)
  simp only [qz]
  refine rf_storeR (n := 2) rfl rfl (by kernel_rfl) rfl rfl (UpdR.here _ _ _ (Nat.le_of_ble_eq_true rfl)) (fun _ h => by cases h) ?_
  simp only [qz, Nat.reduceAdd]
  refine rg_assign ?_
  simp only [qz]
  refine rg_nil (ek_next (wk_seq ?_))
  obtain ⟨bz, cz, rz, hu, hvo, hco1, hco2, hco3⟩ := hO2.openM (by omega)
  subst hu
  cases hvo
  simp only [List.cons_append, List.nil_append]
  refine wk_region [0, 1, 1, 1] rfl (by kernel_rfl) ?_
  simp only [qy]
  refine rf_build (cs := fun a => #[.slice none 0 0, .slice none 0 0]) rfl rfl (by kernel_rfl) ?_
  simp only [qz]
  refine rg_new (cs := ?_) (ty := ?_) (by rfl) (fun w => ?_) (fun _ h => by cases h) (fun g4 => ?_); rotate_left 2
  focus (go_simp; rfl)
  simp only [qz]
  refine rg_new (cs := ?_) (ty := ?_) (by rfl) (fun w => ?_) (fun _ h => by cases h) (fun g5 => ?_); rotate_left 2
  focus (go_simp; rfl)
  simp only [qz]
  refine rf_store rfl rfl (by kernel_rfl) rfl rfl (UpdR.here _ _ _ (Nat.le_of_ble_eq_true rfl)) (fun _ h => by cases h) ?_
  simp only [qz]
  refine rg_nil (ek_next (wk_seq (wk_seq ?_)))
  refine wk_region [0, 0, 0, 0, 1] rfl (by kernel_rfl) ?_
  simp only [qy]
  refine rf_field (n := 0) (j := 1) rfl rfl rfl Try.underlying38 rfl (by kernel_rfl) rfl ?_
  simp only [qz]
  refine rf_load rfl rfl rfl Try.underlying36 rfl (fun w hw => (Kn.hd0 (Kn.tl (Kn.tl hw))).at rfl) ?_
  simp only [qz]
  refine rf_field (n := 0) (j := 0) rfl rfl rfl Try.underlying38 rfl (by kernel_rfl) rfl ?_
  simp only [qz]
  refine rf_load rfl rfl rfl Try.underlying3 rfl (fun w hw => (Kn.hd0 (Kn.tl (Kn.tl (Kn.tl (Kn.tl hw))))).at rfl) ?_
  simp only [qz]
  apply rg_made (T := fun v u => ∃ gs gn, v = .func (.func 154) #[] #[.pointer (some ⟨gs, 0, none⟩), .pointer (some ⟨gn, 0, none⟩)] ∧ u = [(gn, .cells #[.int .i64 N] 3), (gs, .cells #[.slice (some ⟨bz, 0, none⟩) zs.length vc2] 36)]) (by rfl) (by kernel_rfl)
  case hargs => (simp only [qm, qs, Act.eval]; exact rfl)
  case h => exact fun w hw => (chunk_any N bz zs.length vc2 hN1 w).mono (fun e w' ⟨gs, gn, he, hm⟩ => ⟨_, _, he, ⟨gs, gn, rfl, rfl⟩, hm⟩)
  case hz => exact (fun _ h => by cases h)
  rintro v1 u1 ⟨gs, gn, rfl, rfl⟩
  simp only [List.cons_append, List.nil_append]
  simp only [qz]
  refine rg_nil (ek_next (wk_block ?_))
  refine wk_rangeFunc (f := 154) (caps := #[.pointer (some ⟨gs, 0, none⟩), .pointer (some ⟨gn, 0, none⟩)]) rfl (by kernel_rfl) ?_
  intro fn dd lp w1 K1
  obtain ⟨r, hr⟩ := exl_loop K1
  rw [← hr] at K1
  have K2 := K1.perm ((perm_at (l := [_, _, _]) (perm_at (l := [_, _, _]) (perm_at (l := [_, _, _, _]) (perm_at (l := [_, _]) (perm_at (l := [_]) (List.Perm.refl _)))))).cons _)
  have K3 := Kn.self (v := [_, _, _, _, _, _]) (rest := [_, _, _]) K2
  have hR : RoundsK N bz lp r (ChC N lp g5 g4 bz r zs rz) := by
    subst hr
    refine ⟨rfl, fun j s ⟨ra, rc, rs, uo, e, _⟩ => by subst e; simp, ?_⟩
    intro R B F j i s rest w hj hi ⟨ra, rc, rs, uo, hs, hOw, hrl, hrv⟩ K
    subst hs
    simp only [List.cons_append, List.append_assoc, List.nil_append] at K
    have hij : i + N ≤ zs.length := by
      have := Nat.mul_le_mul_right N (show j + 1 ≤ N by omega)
      rw [Nat.add_mul, Nat.one_mul, ← hi, ← hzl.out] at this
      exact this
    replace hi := Lib.hid hi
    refine roundIn_kn (Rep.here _) rfl ?_ K
    simp only [fold_zipK]
    simp only [qz]
    refine wk_region [0] rfl (by kernel_rfl) ?_
    simp only [qy]
    refine rg_assign ?_
    simp only [qz]
    refine rg_nil ?_
    refine ek_asg ?_
    refine wk_block ?_
    refine wk_drawsR _ _ [(0, 0), (1, 0), (2, 0), (3, 0), (4, 0), (5, 0), (6, 1), (7, 1), (8, 1), (9, 3), (10, 0), (11, 2)] [11] (by kernel_rfl) (by kernel_rfl) (fun c d v a w h => by cases d <;> exact h) ((sc _ (sc _ (sc _ (sc _ (List.Sublist.append_left ((List.Sublist.refl _).trans (List.sublist_append_right _ _)) _)))))) (fun e => by first | exact absurd e (by decide) | rfl) (by rfl) ?_ ((sc _ (sc _ (sk _ (sc _ (List.Sublist.append_left (List.Sublist.refl _) _))))))
    simp only [List.map_cons, List.map_nil, List.getD_cons_zero, List.getD_cons_succ]
    refine rf_load rfl rfl rfl Try.underlying128 rfl (fun w hw => (Kn.hd0 (Kn.tl hw)).at rfl) ?_
    simp only [qz]
    refine rf_load rfl rfl rfl Try.underlying128 rfl (fun w hw => (Kn.hd0 (Kn.tl hw)).at rfl) ?_
    simp only [qz]
    apply rg_soft
    case hy => (intro w hw; go_simp; (try go_bits); exact Yld.mk _ _)
    simp only [qz]
    refine rf_field (n := 0) (j := 0) rfl rfl rfl Try.underlying131 rfl (by kernel_rfl) rfl ?_
    simp only [qz]
    refine rf_load rfl rfl rfl Try.underlying129 rfl (fun w hw => (Kn.hd0 (Kn.tl (Kn.tl hw))).at rfl) ?_
    simp only [qz]
    refine rg_move ?_
    simp only [qz]
    apply rg_made (T := fun v u => OwnN u v (chunkL zs i N)) (by rfl) (by kernel_rfl)
    case hargs => (simp only [qm, qs, Act.eval]; exact rfl)
    case h => exact fun w hw => (clonek_any N bz (0 + i * 5) N (chunkL zs i N) (Lib.hid (chunkL_len zs i N)) (by omega) w (chunk_as (Kn.hd0 (Kn.tl (Kn.tl (Kn.tl hw)))) hij)).mono (fun e w' ⟨v, u, he, hO, hm⟩ => ⟨v, u, he, hO, hm⟩)
    case hz => exact (fun _ h => by cases h; exact (sc _ (sc _ (sc _ (sc _ (List.Sublist.append_left ((List.Sublist.refl _).trans (List.sublist_append_right _ _)) _))))))
    intro v2 u2 hO2
    obtain ⟨gr, cr, rr, hu2, hv2, hr1, hr2, hr3⟩ := hO2.openM (by rw [chunkL_len]; omega)
    subst hu2
    rw [chunkL_len] at hv2
    subst hv2
    simp only [List.cons_append, List.nil_append]
    simp only [qz]
    refine rg_newS (cs := ?_) (ty := ?_) (n := 1) (c := 1) (by rfl) (fun w => ?_) (fun _ h => by cases h; exact (sk _ (sc _ (sc _ (sc _ (sc _ (List.Sublist.append_left ((List.Sublist.refl _).trans (List.sublist_append_right _ _)) _))))))) (fun g6 => ?_); rotate_left 2
    focus (go_simp; rfl)
    simp only [qz]
    refine rg_appRow (u := uo) (hs := rwV N rs) (n := j) (h := .slice (some ⟨gr, 0, none⟩) N cr) (by rfl) rfl hOw rfl (by omega) rfl ((((((((((((((((List.Perm.refl _).append_left _).trans (List.perm_append_comm_assoc (rwB rs) uo _)).cons _).trans (List.perm_middle (l₁ := uo)).symm).cons _).trans (List.perm_middle (l₁ := uo)).symm).cons _).trans (List.perm_middle (l₁ := uo)).symm).cons _).trans (List.perm_middle (l₁ := uo)).symm).cons _).trans (List.perm_middle (l₁ := uo)).symm).cons _).trans (List.perm_middle (l₁ := uo)).symm).trans ((List.Perm.refl _).append_left _)) (fun w hw => Kn.hd0 hw) (fun _ h => by cases h; exact (sk _ (sk _ (sc _ (sc _ (sc _ (sc _ (List.Sublist.append_left (List.Sublist.refl _) _)))))))) (fun uP aP cP hOP => ?_)
    simp only [qz]
    apply rg_softP
    case hy => (intro w hw; go_simp; (try go_bits); exact Yld.mk _ _)
    simp only [qz]
    refine rf_field (n := 0) (j := 0) rfl rfl rfl Try.underlying131 rfl (by kernel_rfl) rfl ?_
    simp only [qz]
    refine rf_storeM rfl rfl (by kernel_rfl) rfl rfl (UpdR.app _ (UpdR.there _ (UpdR.there _ (UpdR.there _ (UpdR.there _ (UpdR.here _ _ _ (Nat.le_of_ble_eq_true rfl))))))) ((sk _ (sk _ (sc _ (sc _ (sk _ (sc _ (List.Sublist.append_left (List.Sublist.refl _) _))))))).trans (List.sublist_append_right _ _)) ?_
    simp only [qz]
    refine rg_nil ?_
    refine ek_out ?_
    refine ek_block ?_
    refine ek_perm ((((((((List.Perm.refl _).cons _).trans (List.Perm.swap _ _ _)).cons _).trans (List.Perm.swap _ _ _)).append_left _).trans (List.perm_middle (l₁ := uP))).trans (((((((((List.Perm.refl _).cons _).trans (List.Perm.swap _ _ _)).cons _).trans (List.Perm.swap _ _ _)).append_left _).trans (List.perm_middle (l₁ := uP))).trans (((((((((List.Perm.refl _).cons _).trans (List.Perm.swap _ _ _)).cons _).trans (List.Perm.swap _ _ _)).append_left _).trans (List.perm_middle (l₁ := uP))).trans (((((((((List.Perm.refl _).cons _).trans (List.Perm.swap _ _ _)).cons _).trans (List.Perm.swap _ _ _)).append_left _).trans (List.perm_middle (l₁ := uP))).trans (((((((((List.Perm.refl _).cons _).trans (List.perm_middle (l₁ := (rwB rs))).symm).cons _).trans (List.perm_middle (l₁ := (rwB rs))).symm).append_left _).trans (List.perm_append_comm_assoc uP (rwB rs) _)).trans (((((((List.Perm.refl _).cons _).trans (List.Perm.swap _ _ _)).append_left _).trans (List.perm_middle (l₁ := uP))).trans ((List.Perm.refl _).cons _)).append_left _)).cons _)).cons _)).cons _)).cons _)) ?_
    refine ek_sub (sc _ (sc _ (sc _ (sc _ (List.Sublist.append_left (sc _ (List.Sublist.append_left (sk _ (List.Sublist.refl _)) _)) _))))) ?_
    refine ek_roundEnd (Rep.here _) (fun w hw => ⟨_, rfl, ⟨aP, cP, rs ++ [⟨gr, cr, chunkL zs i N, rr⟩], uP, rfl, (by unfold rwV; rw [List.map_append]; exact hOP), by rw [List.length_append, hrl]; rfl, fun i' q hq => ?_⟩, Kn.to ?_ hw⟩)
    · rcases rw_snoc_get hq with ⟨e1, e2⟩ | h
      · subst e2 e1
        refine ⟨chunkL_len _ _ _, fun k hk => ?_⟩
        show nm (chunkL zs i N) k = _
        rw [chunkL_nm hk, hi.out, hrl]
      · exact hrv i' q h
    · simp only [rwB, RW.blk, List.map_append, List.map_cons, List.map_nil, List.append_assoc, List.cons_append, List.nil_append]
  have hpend : r.pending = none := by subst hr; rfl
  have hst : r.state ≠ .busy := by (subst hr; simp)
  clear hr
  have hC0 : ChC N lp g5 g4 bz r zs rz 0 [(lp, .loop r), (g5, .cells #[.pointer (some ⟨g4, 0, none⟩)] 128), (g4, .cells #[.slice none 0 0, .slice none 0 0] 131), (bz, .cells (NmE.flat zs ++ rz).toArray 45)] := ⟨none, 0, [], [], rfl, Own.nil _ _, rfl, fun i x h => by simp at h⟩
  refine (chunk1_any N zs.length bz vc2 lp gs gn hN1 hN6' hzl hz36 hco1 r _ hR _ _ hC0 w1 K3).mono ?_
  rintro e w2 ⟨rfl, s', ⟨ra, rc, rs, uo, rfl, hOw, hrl, hrv⟩, hK⟩
  have K4 := Kn.effApp (v := [_, _, _, _, _, _]) (rest := [_, _, _]) K2 hK
  simp only [List.cons_append, List.append_assoc, List.nil_append] at K4
  refine ⟨_, _, r, _, rfl, K4, Rep.here _, hst, ?_⟩
  rw [hpend]
  refine ek_block (ek_next (wk_seq (wk_seq ?_)))
  obtain ⟨go, oc, ro, hu, hv', hrl2⟩ := hOw.open1 (by omega)
  subst hu
  cases hv'
  obtain ⟨ao, co, heo, hoc⟩ := Own.val hOw
  cases heo
  simp only [List.cons_append, List.nil_append]
  have hW0 : WS N g4 (fun i k => nm zs (i * N + k)) [] ((g4, .cells #[.slice (some ⟨go, 0, none⟩) N rc, .slice none 0 0] 131) :: (go, .cells (rwV N rs ++ ro).toArray 36) :: (rwB rs ++ ([] ++ [])))   := ⟨go, rc, ro, rs, none, 0, [], rfl, hrl, hoc, fun x hx => (by obtain ⟨i, hi⟩ := List.getElem?_of_mem hx; exact (hrv i x hi).1), fun i x hx k hk => (hrv i x hx).2 k hk, OwnT.nil, fun i k hi hk => nm_okA hzo _⟩
  refine wk_perm (perm_at (l := [_, _]) ((((((((((List.Perm.refl _).append_left _).trans (List.perm_middle (l₁ := (rwB rs)))).cons _).trans (List.Perm.swap _ _ _)).cons _).trans (List.Perm.swap _ _ _)).cons _).trans (List.Perm.swap _ _ _)).trans ((perm_atU (l := [_, _, _]) (u := (rwB rs)) (perm_at (l := [_]) (perm_at (l := [_, _, _, _, _, _]) (perm_at (l := [_, _, _, _]) (List.Perm.refl _))))).cons _))) ?_
  refine wk_sub (sc _ (sc _ (List.Sublist.append_left (sc _ (sc _ (sc _ (sk _ (sk _ (sk _ (sk _ (sk _ sn)))))))) _))) ?_
  have hpi0 : PI N 0 (fun i k => nm zs (i * N + k)) := ⟨fun i k hi hk => nm_okA hzo _, unC_congr (b := fun i k => Q4.conj (tb N xs k i)) (fun i k hi hk => hzt i k hi hk) (unC_dag ((unB_C hv.out).1 hu.out)), fun i c _ hc => absurd hc (by omega)⟩
  have hk40 := expo_ok (validB_true hv.out).choose_spec.2.2.2.2.2
  have hkz : ∀ i k, i < N → k < N → (nm zs (i * N + k)).k ≤ expo xs := fun i k hi hk => dag_k hv.out hzv hzt hi hk
  have hcb0 : Cb N 0 (fun i k => nm zs (i * N + k)) := cb_start (by omega) hN1 (show expo xs ≤ mostN N by omega) hkz
  have hact0 : EqT N (vt (fun i k => nm zs (i * N + k))) (actQ [] fun i k => Q4.conj (tb N xs k i)) := fun i k hi hk => hzt i k hi hk
  refine wk_region [0, 0, 0] rfl (by kernel_rfl) ?_
  simp only [qy]
  refine rf_field (n := 0) (j := 0) rfl rfl rfl Try.underlying38 rfl (by kernel_rfl) rfl ?_
  simp only [qz]
  refine rf_load rfl rfl rfl Try.underlying3 rfl (fun w hw => (Kn.hd0 (Kn.tl (Kn.tlU (Kn.tl (Kn.tl hw))))).at rfl) ?_
  simp only [qz]
  refine rg_move ?_
  simp only [qz]
  refine rg_nil (ek_next (wk_block ?_))
  refine wk_loopF [12, 65, 66, 67, 68, 69, 70, 71] (fun mz f s => ∃ (col : Nat) (z : Zt) (L : List It) (uV : List Blk), f 65 = .int .i64 col ∧ s = (uV ++ ((g5, .cells #[.pointer (some ⟨g4, 0, none⟩)] 128) :: ((g1, .cells #[.int .i64 N, .slice a xs.length c] 38) :: ((dd, .deferred (some [])) :: [])))) ∧ mz = N - col ∧ col ≤ N ∧ WS N g4 z L uV ∧ PI N col z ∧ Cb N col z ∧ EqT N (vt z) (actQ L fun i k => Q4.conj (tb N xs k i)) ∧ (∀ x ∈ L, fitB N x = true) ∧ L.length ≤ 700 * col) ((fun (col : Nat) (z : Zt) (L : List It) (uV : List Blk) => N - col) (0) ((fun i k => nm zs (i * N + k))) ([]) (((g4, .cells #[.slice (some ⟨go, 0, none⟩) N rc, .slice none 0 0] 131) :: (go, .cells (rwV N rs ++ ro).toArray 36) :: (rwB rs ++ ([] ++ []))))) ?_ (by kernel_rfl) ?_
  · exact ⟨0, (fun i k => nm zs (i * N + k)), [], ((g4, .cells #[.slice (some ⟨go, 0, none⟩) N rc, .slice none 0 0] 131) :: (go, .cells (rwV N rs ++ ro).toArray 36) :: (rwB rs ++ ([] ++ []))), rfl, (by simp only [List.cons_append, List.append_assoc, List.nil_append]), rfl, by omega, hW0, hpi0, hcb0, hact0, (fun x hx => by cases hx), (by simp)⟩
  rintro mz f1 s ⟨col, z, L, uV, hs1_65, rfl, hn, hd1, hd2, hd3, hd4, hd5, hd6, hd7⟩
  simp only [Act.putF, List.foldl_cons, List.foldl_nil, hs1_65, Act.put, Act.eval, q1, q2, q3, q4, q5, q6, q7, q8, q9, q10, q11, q12, q13, q14, q15, q16, q17, q18, Nat.reduceAdd, Bool.not_true, Bool.not_false]
  clear hs1_65
  refine wk_seq ?_
  refine wk_region [0] rfl (by kernel_rfl) ?_
  simp only [qy]
  refine rfb_lss rfl rfl rfl rfl ?_
  intro x h3
  cases x
  · (try simp only [qd, ne_eq] at h3)
    simp only [qz]
    refine rg_nil (ek_next (wk_seq (wk_cond_f rfl (wk_exit (ek_then_exit (ek_then_exit (ek_block_exit (ek_next (wk_seq ?_)))))))))
    obtain rfl : col = N := by omega
    obtain ⟨go3, oc3, ro3, rs3, ia3, ic3, u3, hse3, hrl3, hoc3, hlen3, hval3, hO3, hok3⟩ := hd2.open_
    refine wk_perm ((((List.Perm.refl _).append_left _).trans (List.perm_middle (l₁ := uV))).trans (((((List.Perm.refl _).append_left _).trans (List.perm_middle (l₁ := uV))).trans (((((List.Perm.refl _).append_left _).trans (List.perm_middle (l₁ := uV))).trans ((List.Perm.refl _).cons _)).cons _)).cons _)) ?_
    rw [hse3]
    refine wk_region [0, 0, 0, 0, 0, 0] rfl (by kernel_rfl) ?_
    simp only [qy]
    refine rf_load rfl rfl rfl Try.underlying128 rfl (fun w hw => (Kn.hd0 hw).at rfl) ?_
    simp only [qz]
    apply rg_soft
    case hy => (intro w hw; go_simp; (try go_bits); exact Yld.mk _ _)
    simp only [qz]
    refine rf_field (n := 0) (j := 1) rfl rfl rfl Try.underlying131 rfl (by kernel_rfl) rfl ?_
    simp only [qz]
    refine rf_load rfl rfl rfl Try.underlying32 rfl (fun w hw => (Kn.hd0 (Kn.tl (Kn.tl (Kn.tl hw)))).at rfl) ?_
    simp only [qz]
    refine rg_assign ?_
    simp only [qz]
    refine rg_assign ?_
    simp only [qz]
    refine rg_nil (ek_next (wk_ret ?_))
    refine ek_retM1 (Rep.there _ (Rep.there _ (Rep.here _))) (fun w hw => ⟨_, res_tt _ _ rfl, ?_⟩)
    (try simp only [qz])
    exact ⟨L, ⟨hd6, by omega, fun i k hi hk => (hd5 i k hi hk).symm.trans (hd3.idc i k hi hk hk)⟩, _, u3, (by first | rfl | trivial), hO3, hw.made (List.Sublist.cons _ (List.Sublist.cons _ (List.Sublist.cons _ (List.Sublist.cons _ (List.Sublist.cons _ ((List.sublist_append_left _ _).trans (List.sublist_append_right _ _)))))))⟩
  (try simp only [qd, ne_eq] at h3)
  simp only [qz]
  refine rg_nil (ek_next (wk_seq (wk_cond_t rfl (wk_skip (ek_next (wk_seq (wk_block (wk_seq ?_))))))))
  refine wk_region [0, 0] rfl (by kernel_rfl) ?_
  simp only [qy]
  refine rg_move ?_
  simp only [qz]
  refine rg_assign ?_
  simp only [qz]
  refine rg_nil (ek_next ?_)
  obtain ⟨B, hB, hB13⟩ := hd4.bnd hd3
  have hmu := muZ_le hd3 (show col < N by omega)
  have hmu2 : muZ N col z ≤ 320 := Nat.le_trans hmu (by have := Nat.mul_le_mul_right 80 (show N ≤ 4 by omega); omega)
  refine wk_region [0, 0, 1] rfl (by kernel_rfl) ?_
  simp only [qy]
  refine rf_load rfl rfl rfl Try.underlying128 rfl (fun w hw => (Kn.hd0 (Kn.tlU hw)).at rfl) ?_
  simp only [qz]
  refine rg_move ?_
  simp only [qz]
  refine rg_eff (T := fun uX => ∃ z2 L2, WS N g4 z2 L2 uX ∧ PI N (col + 1) z2 ∧ Cb N (col + 1) z2 ∧ EqT N (vt z2) (actQ L2 fun i k => Q4.conj (tb N xs k i)) ∧ (∀ x ∈ L2, fitB N x = true) ∧ L2.length ≤ 700 * col + 640 + 4) (vb := uV) (rest := _) (by rfl) (by kernel_rfl) (by simp only [qm, qs, Act.eval]; try rfl) (List.Perm.refl _) (fun w hw => wcolumn_any N col g4 (700 * col + 640) B _ z L uV hd2 (by omega) (by omega) (fun h => hB13 (by omega)) (by omega) (by omega) ⟨hd3, hB, hd5, hd6, by omega⟩ w hw) (fun uX hTuX => ?_)
  simp only [qz]
  obtain ⟨z2, L2, hW2, hp2, hc2, ha2, hf2, hl2⟩ := hTuX
  refine rg_nil (ek_block (ek_next ?_))
  refine wk_region [0, 0] rfl (by kernel_rfl) ?_
  simp only [qy]
  refine rf_add rfl rfl rfl rfl (wrap_ok (by omega) (by omega)) ?_
  simp only [qz]
  refine rg_move ?_
  simp only [qz]
  refine rg_nil ?_
  refine ek_roundF (N - (col + 1)) (by omega) (by kernel_rfl) ?_
  exact ⟨col + 1, z2, L2, uX, rfl, by rfl, by rfl, by omega, hW2, hp2, hc2, ha2, hf2, (by omega)⟩

end Go.Proofs.Ytccbinnlnkpplaa
namespace Go.Proofs.Ytccbinnlnkpplaa
set_option linter.all false
open Go.RowKit

set_option maxRecDepth 100000 in
set_option maxHeartbeats 1000000 in
theorem rSameM_eq (n : Int) (xs : List Nm) (a a' : Option Addr) (c c' : Nat) (hl : xs.length ≤ 1000000) (w : World) (hA : AS w a (nms xs)) (hB : AS w a' (nms xs)) : Calls Try.prog 36 #[.agg #[.int .i64 n, .slice a xs.length c], .agg #[.int .i64 n, .slice a' xs.length c']] w fun e w' => e = .returned (.bool true) ∧ Below w.heap.size w w' := by
  go_enter Try.func36, Try.ntmps36
  refine wk_start ?_
  refine wk_seq ?_
  refine wk_region [1, 1, 0] rfl Kx ?_
  simp only [qy]
  refine Rgn fun g1 => ?_
  simp only [qz]
  refine Rgn fun g2 => ?_
  simp only [qz]
  refine rg_assign ?_
  simp only [qz]
  refine rg_nil (ek_next (wk_seq (wk_seq ?_)))
  refine wk_region [0, 0, 0, 0, 0, 0, 0, 0, 0, 0, 0, 0, 0, 0] rfl Kx ?_
  simp only [qy]
  refine rf_field (n := 0) (j := 0) rfl rfl rfl Try.underlying38 rfl Kx rfl ?_
  simp only [qz]
  refine rf_load rfl rfl rfl Try.underlying3 rfl (fun w hw => (Kn.hd0 (Kn.tl hw)).at rfl) ?_
  simp only [qz]
  refine rf_field (n := 0) (j := 0) rfl rfl rfl Try.underlying38 rfl Kx rfl ?_
  simp only [qz]
  refine rf_load rfl rfl rfl Try.underlying3 rfl (fun w hw => (Kn.hd0 hw).at rfl) ?_
  simp only [qz]
  refine rfb_neq rfl rfl rfl rfl ?_
  intro x h1
  obtain rfl : x = false := by (refine h1.symm.trans ?_; exact decide_eq_false Ox)
  clear h1
  simp only [qz]
  refine rg_move ?_
  simp only [qz]
  refine rf_field (n := 0) (j := 1) rfl rfl rfl Try.underlying38 rfl Kx rfl ?_
  simp only [qz]
  refine rf_load rfl rfl rfl Try.underlying36 rfl (fun w hw => (Kn.hd0 (Kn.tl hw)).at rfl) ?_
  simp only [qz]
  refine rf_len rfl rfl rfl Try.underlying36 ?_
  simp only [qz]
  refine rf_field (n := 0) (j := 1) rfl rfl rfl Try.underlying38 rfl Kx rfl ?_
  simp only [qz]
  refine rf_load rfl rfl rfl Try.underlying36 rfl (fun w hw => (Kn.hd0 hw).at rfl) ?_
  simp only [qz]
  refine rf_len rfl rfl rfl Try.underlying36 ?_
  simp only [qz]
  refine rfb_neq rfl rfl rfl rfl ?_
  intro x h2
  obtain rfl : x = false := by (refine h2.symm.trans ?_; exact decide_eq_false Ox)
  clear h2
  simp only [qz]
  refine rf_pick rfl rfl rfl ?_
  simp only [qz]
  refine rg_nil (ek_next (wk_cond_f rfl (wk_skip (ek_next (wk_seq (wk_seq ?_))))))
  refine wk_region [0] rfl Kx ?_
  simp only [qy]
  refine rg_assign ?_
  simp only [qz]
  refine rg_nil (ek_next (wk_block ?_))
  refine wk_loopF [4, 5, 20, 21, 22, 23, 24, 25, 26, 27, 28, 29, 30, 31, 32, 33, 34, 35, 36, 37] (fun mz f s => ∃ (i : Nat), f 5 = .int .i64 i ∧ s = ((g2, .cells #[.int .i64 n, .slice a' xs.length c'] 38) :: ((g1, .cells #[.int .i64 n, .slice a xs.length c] 38) :: [])) ∧ mz = xs.length - i ∧ i ≤ xs.length) ((fun (i : Nat) => xs.length - i) (0)) ?_ Kx ?_
  · exact ⟨0, rfl, rfl, rfl, by omega⟩
  rintro mz f1 s ⟨i, hs1_5, rfl, hn, hd1⟩
  simp only [Act.putF, List.foldl_cons, List.foldl_nil, hs1_5, Act.put, Act.eval, q1, q2, q3, q4, q5, q6, q7, q8, q9, q10, q11, q12, q13, q14, q15, q16, q17, q18, Nat.reduceAdd, Bool.not_true, Bool.not_false]
  clear hs1_5
  refine wk_seq (wk_seq ?_)
  refine wk_region [0, 0, 0, 0, 0] rfl Kx ?_
  simp only [qy]
  refine rg_move ?_
  simp only [qz]
  refine rf_field (n := 0) (j := 1) rfl rfl rfl Try.underlying38 rfl Kx rfl ?_
  simp only [qz]
  refine rf_load rfl rfl rfl Try.underlying36 rfl (fun w hw => (Kn.hd0 (Kn.tl hw)).at rfl) ?_
  simp only [qz]
  refine rf_len rfl rfl rfl Try.underlying36 ?_
  simp only [qz]
  refine rfb_lss rfl rfl rfl rfl ?_
  intro x h3
  cases x
  · (try simp only [qd, ne_eq] at h3)
    simp only [qz]
    refine rg_nil (ek_next (wk_cond_f rfl (wk_exit (ek_then_exit (ek_then_exit (ek_block_exit (ek_next (wk_seq ?_))))))))
    refine wk_region [0] rfl Kx ?_
    simp only [qy]
    refine rg_assign ?_
    simp only [qz]
    refine rg_nil (ek_next (wk_ret ?_))
    refine ek_ret (fun w hw => ⟨rfl, _, res_t _ rfl, ?_⟩)
    (try simp only [qz])
    first | exact ⟨rfl, hw.below⟩ | exact ⟨trivial, hw.below⟩ | exact hw.below
  (try simp only [qd, ne_eq] at h3)
  simp only [qz]
  refine rg_nil (ek_next (wk_cond_t rfl (wk_skip (ek_next (wk_seq (wk_block (wk_seq ?_)))))))
  obtain ⟨b, off, ha, hlt, hcell⟩ := AS.openN hA Ox
  obtain ⟨b', off', ha', hlt', hcell'⟩ := AS.openN hB Ox
  subst ha ha'
  refine wk_draws _ _ [(0, 0), (1, 0), (2, 0), (3, 0), (4, 0), (5, 0), (6, 0), (7, 0), (8, 0), (9, 0), (10, 0)] [] Kx Kx (fun c d v a w h => by cases d <;> exact h) ((sc _ (sc _ sn))) (fun e => by first | exact absurd e (by decide) | rfl) ?_
  simp only [List.map_cons, List.map_nil, List.getD_cons_zero, List.getD_cons_succ]
  refine rf_field (n := 0) (j := 1) rfl rfl rfl Try.underlying38 rfl Kx rfl ?_
  simp only [qz]
  refine rf_load rfl rfl rfl Try.underlying36 rfl (fun w hw => (Kn.hd0 (Kn.tl hw)).at rfl) ?_
  simp only [qz]
  refine rg_move ?_
  simp only [qz]
  refine rf_indexS (n := i) (sz := 5) (j := off + i * 5) rfl rfl rfl rfl Try.underlying36 Kx Ox Ox rfl ?_
  simp only [qz]
  refine rf_loadC (n := 5) (vs := [.int .i64 (nm xs i).a, .int .i64 (nm xs i).b, .int .i64 (nm xs i).c, .int .i64 (nm xs i).d, .int .i64 (nm xs i).k]) rfl rfl rfl Try.underlying45 rfl Kx rfl (fun w hw => atN_range ((hcell i Ox).kn hw hlt (by simp))) ?_
  simp only [qz]
  refine rf_field (n := 0) (j := 1) rfl rfl rfl Try.underlying38 rfl Kx rfl ?_
  simp only [qz]
  refine rf_load rfl rfl rfl Try.underlying36 rfl (fun w hw => (Kn.hd0 hw).at rfl) ?_
  simp only [qz]
  refine rg_move ?_
  simp only [qz]
  refine rf_indexS (n := i) (sz := 5) (j := off' + i * 5) rfl rfl rfl rfl Try.underlying36 Kx Ox Ox rfl ?_
  simp only [qz]
  refine rf_loadC (n := 5) (vs := [.int .i64 (nm xs i).a, .int .i64 (nm xs i).b, .int .i64 (nm xs i).c, .int .i64 (nm xs i).d, .int .i64 (nm xs i).k]) rfl rfl rfl Try.underlying45 rfl Kx rfl (fun w hw => atN_range ((hcell' i Ox).kn hw hlt' (by simp))) ?_
  simp only [qz]
  refine rfb_neN (nm xs i) (nm xs i) rfl rfl rfl rfl ?_
  intro x h4
  cases x
  · (try simp only [qd, ne_eq] at h4)
    simp only [qz]
    refine rg_nil (ek_next (wk_cond_f rfl (wk_skip (ek_block (ek_next ?_)))))
    refine wk_region [0, 0, 0] rfl Kx ?_
    simp only [qy]
    refine rg_move ?_
    simp only [qz]
    refine rf_add rfl rfl rfl rfl (wrap_ok Ox Ox) ?_
    simp only [qz]
    refine rg_assign ?_
    simp only [qz]
    refine rg_nil ?_
    refine ek_roundF (xs.length - (i + 1)) Ox Kx ?_
    exact ⟨i + 1, rfl, by rfl, by rfl, Ox⟩
  (try simp only [qd, ne_eq] at h4)
  simp only [qz]
  simp at h4

end Go.Proofs.Ytccbinnlnkpplaa
namespace Go.Proofs.Ytccbinnlnkpplaa
set_option linter.all false
open Go.RowKit

/-- A program, or the first error. -/
theorem prog_any (n : Int) (xs : List Nm) (a : Option Addr) (c : Nat) (hl : xs.length ≤ 1000000) (w : World) (hA : AS w a (nms xs)) : Calls Try.prog 59 #[.agg #[.int .i64 n, .slice a xs.length c]] w fun e w' =>
    ∃ L, ((askE n xs = 0 → ProgL n.toNat xs L) ∧ (askE n xs ≠ 0 → L = [])) ∧ RetS w L (askE n xs) e w' := by
  by_cases hv : validB n xs = true
  · obtain ⟨N, rfl, -⟩ := validB_true hv
    have e0 : askE N xs = if (N : Int) > 4 ∨ expo xs > mostN N then 4 else if unB N xs = true then 0 else 22 := by unfold askE; rw [if_pos hv, Int.toNat_natCast]
    rw [Int.toNat_natCast]
    by_cases h4 : (N : Int) > 4
    · rw [e0, if_pos (.inl h4)]
      exact (prog_big N xs a c hl (Lib.hid hv) h4 w hA).mono fun e w' h => ⟨[], ⟨(fun e => by cases e), fun _ => rfl⟩, h⟩
    · by_cases hk : expo xs > mostN N
      · rw [e0, if_pos (.inr hk)]
        exact (prog_limit N xs a c hl (Lib.hid hv) h4 hk w hA).mono fun e w' h => ⟨[], ⟨(fun e => by cases e), fun _ => rfl⟩, h⟩
      · rw [e0, if_neg (fun h => h.elim h4 hk)]
        by_cases hu : unB N xs = true
        · rw [if_pos hu]
          exact (prog_yes N xs a c hl (Lib.hid hv) h4 hk (Lib.hid hu) w hA).mono fun e w' ⟨L, hP, h⟩ => ⟨L, ⟨fun _ => hP, fun e => absurd rfl e⟩, h⟩
        · rw [if_neg hu]
          exact (prog_non N xs a c hl (Lib.hid hv) h4 hk (Lib.hid (by simpa using hu)) w hA).mono fun e w' h => ⟨[], ⟨(fun e => by cases e), fun _ => rfl⟩, h⟩
  · have e0 : askE n xs = 20 := by unfold askE; rw [if_neg hv]
    rw [e0]
    exact (prog_invalid n xs a c hl (Lib.hid (by simpa using hv)) w hA).mono fun e w' h => ⟨[], ⟨(fun e => by cases e), fun _ => rfl⟩, h⟩
section
variable {R : Option Nat} {ops : Array Oper} {Q : Exit → Act → World → Prop} {B : World} {F : List Nat} {s0 : Option (List Blk × List Blk)}
variable {l : List (Oper × Nat)} {a : Act} {s S : List Blk} {d : Option Tmp} {op : Op} {t : TypeId} {p : String} {af : Array Edge} {v : Value}
theorem rg_retP {T : List It → Prop} {f : Nat} {cargs : Array Operand} {at_ : Array TypeId} {args : Array Value} {cc : Int} {P : Program} {gd : Option (Nat × Bool)} (hg : Region.wanted ⟨d, .call ⟨.value (.func f), cargs, at_⟩, t, p, af, gd⟩ (yielded ops a.tmps) = true) (hgo : isGo P f = true)
    (h : ∀ w, Kn B F s w → Calls P f args w fun e w' => ∃ L, T L ∧ RetS w L cc e w') (hargs : cargs.map a.eval = args)
    (hz : ∀ z ∈ s0, z.1.Sublist s) (k : ∀ (L : List It) (va : Option Addr) (vc : Nat) (u : List Blk), T L → OwnT u (.slice va L.length vc) L → Rg R P ops Q B F s0 l (a.put d (.tuple #[.slice va L.length vc, .int .i64 cc])) (u ++ s)) :
    Rg R P ops Q B F s0 ((⟨d, .call ⟨.value (.func f), cargs, at_⟩, t, p, af, gd⟩, 1) :: l) a s :=
  rg_call hg hgo hargs fun w K => (h w K).mono fun e w' ⟨L, hT, v, u, he, hO, hm⟩ => by
    obtain ⟨a', c', rfl, -⟩ := Own.val hO
    exact ⟨_, u ++ s, he, K.add hm, fun z hz' => (hz z hz').trans (List.sublist_append_right _ _), k L a' c' u hT hO⟩
end
theorem mat_len {N : Nat} {m : List Nm} (hv : validB N m = true) : m.length ≤ 36 := by
  obtain ⟨N', e, h1, h6, hx, h36, -⟩ := validB_true hv
  exact h36
theorem lst_eq {N : Nat} {m : List Nm} (hv : validB N m = true) (hu : unB N m = true) : lstR N m = (expo m, 0) := by unfold lstR; rw [if_pos hv, if_pos hu]
theorem ask_cases {N : Nat} {m : List Nm} (hv : validB N m = true) (hu : unB N m = true) : askE N m = 0 ∨ askE N m = 4 := by
  unfold askE
  rw [if_pos hv, if_pos hu]
  split
  · exact .inr rfl
  exact .inl rfl
/-- The matrix of the inverse circuit is the adjoint. -/
theorem inv_eq {N : Nat} {xs : List It} {m d x : List Nm} (h1 : 1 ≤ N) (h6 : N ≤ 6) (hf : ∀ x ∈ xs, fitB N x = true) (hm : matS N xs xs.length = .ok m) (hdv : validB N d = true) (hd : ∀ i k, i < N → k < N → tb N d i k = Q4.conj (tb N m k i))
    (hx : matS N (invS xs xs.length) (invS xs xs.length).length = .ok x) : x = d := by
  obtain ⟨mv, -, me, -⟩ := mat_facts h1 h6 hf hm
  obtain ⟨xv, -, xe, -⟩ := mat_facts h1 h6 (invS_fit hf _ (Nat.le_refl _)) hx
  refine tb_ext xv hdv fun i k hi hk => ?_
  rw [xe i k hi hk, inv_dag hf i k hi hk, hd i k hi hk, me k i hk hi]
/-- The matrix of a program is the one that it was made of. -/
theorem prog_eq {N : Nat} {x y : List Nm} {L : List It} (h1 : 1 ≤ N) (h6 : N ≤ 6) (hv : validB N x = true) (hu : unB N x = true) (hP : ProgL N x L) (hy : matS N L L.length = .ok y) : y = x := by
  obtain ⟨yv, -, ye, -⟩ := mat_facts h1 h6 hP.1 hy
  refine tb_ext yv hv fun i k hi hk => ?_
  rw [ye i k hi hk]
  exact prog_mat (l := []) hP.1 hv hu hP.2.2 i k hi hk
set_option maxRecDepth 100000 in
set_option maxHeartbeats 1000000 in
theorem synthFewer_any (n : Int) (xs : List It) (a : Option Addr) (c : Nat) (w : World) (hA : AS w a (its xs)) : Calls Try.prog 13 #[.int .i64 n, .slice a xs.length c] w fun e w' => e = .returned (.bool true) ∧ Below w.heap.size w w' := by
  go_enter Try.func13, Try.ntmps13
  refine wk_start ?_
  refine wk_seq ?_
  refine wk_region [0] rfl (by kernel_rfl) ?_
  simp only [qy]
  refine rg_assign ?_
  simp only [qz]
  refine rg_nil (ek_next (wk_seq (wk_seq ?_)))
  refine wk_region [0, 0, 0, 0, 0, 0, 0, 0, 0, 0, 0, 0, 0, 0, 1, 0, 0] rfl (by kernel_rfl) ?_
  simp only [qy]
  refine rg_move ?_
  simp only [qz]
  refine rf_len rfl rfl rfl Try.underlying32 ?_
  simp only [qz]
  refine rfb_gtr rfl rfl rfl rfl ?_
  intro x h1
  cases x
  · (try simp only [qd, ne_eq] at h1)
    simp only [qz]
    refine rg_move ?_
    simp only [qz]
    apply rg_soft_g
    case hg => rfl
    case hy => (intro w hw; go_simp; (try go_bits); exact Yld.mk _ _)
    simp only [qz]
    refine rfb_lss rfl rfl rfl rfl ?_
    intro x h2
    cases x
    · (try simp only [qd, ne_eq] at h2)
      simp only [qz]
      refine rf_pick rfl rfl rfl ?_
      simp only [qz]
      refine rg_move ?_
      simp only [qz]
      apply rg_soft_g
      case hg => rfl
      case hy => (intro w hw; go_simp; (try go_bits); exact Yld.mk _ _)
      simp only [qz]
      refine rfb_gtr rfl rfl rfl rfl ?_
      intro x h3
      cases x
      · (try simp only [qd, ne_eq] at h3)
        simp only [qz]
        refine rf_pick rfl rfl rfl ?_
        simp only [qz]
        refine rg_move ?_
        simp only [qz]
        apply rg_soft_g
        case hg => rfl
        case hy => (intro w hw; go_simp; (try go_bits); exact Yld.mk _ _)
        simp only [qz]
        apply rg_soft_g
        case hg => rfl
        case hy => (intro w hw; go_simp; (try go_bits); exact Yld.mk _ _)
        simp only [qz]
        apply rg_pureb (by rfl) (by kernel_rfl)
        case hargs => (simp only [qm, qs, Act.eval]; exact rfl)
        case h => exact fun w hw => rvalidItems_any xs a c n w (hA.kn0 hw)
        case hz => exact (fun _ h => by cases h)
        intro x h4
        cases x
        · (try simp only [qd, ne_eq] at h4)
          simp only [qz]
          refine rf_not rfl rfl rfl ?_
          simp only [qz]
          refine rf_pick rfl rfl rfl ?_
          simp only [qz]
          refine rg_nil (ek_next (wk_cond_t rfl (wk_seq ?_)))
          refine wk_region [1, 0] rfl (by kernel_rfl) ?_
          simp only [qy]
          apply rg_pure (by rfl) (by kernel_rfl)
          case hargs => (simp only [qm, qs, Act.eval]; exact rfl)
          case h => exact fun w hw => sane_any w
          case hz => exact (fun _ h => by cases h)
          simp only [qz]
          refine rg_assign ?_
          simp only [qz]
          refine rg_nil (ek_next (wk_ret (ek_then_ret ?_)))
          refine ek_ret (fun w hw => ⟨rfl, _, res_t _ rfl, ?_⟩)
          (try simp only [qz])
          first | exact ⟨rfl, hw.below⟩ | exact ⟨trivial, hw.below⟩ | exact hw.below
        (try simp only [qd, ne_eq] at h4)
        simp only [qz]
        obtain ⟨N, rfl, hN1, hN6, hlx, hf, hie⟩ := fits_of h4
        have hfi := invS_fit hf xs.length (Nat.le_refl _)
        have hli := invS_len xs xs.length
        refine rf_not rfl rfl rfl ?_
        simp only [qz]
        refine rf_pick rfl rfl rfl ?_
        simp only [qz]
        refine rg_nil (ek_next (wk_cond_f rfl (wk_skip (ek_next (wk_seq ?_)))))
        refine wk_region [0, 0, 1, 0, 0, 0, 1, 1, 0] rfl (by kernel_rfl) ?_
        simp only [qy]
        refine rg_move ?_
        simp only [qz]
        refine rg_move ?_
        simp only [qz]
        rcases hm1 : matS N xs xs.length with c1 | m1
        · have hc1 := matS_lim hN1 hN6 hf _ (Nat.le_refl _) hm1
          subst hc1
          apply (rg_retM (n := 0) (zs := []) (c := 4)) (by rfl) (by kernel_rfl)
          case hargs => (simp only [qm, qs, Act.eval]; exact rfl)
          case h => exact fun w hw => by have := matrixOf_any (N : Int) xs a c w (hA.kn0 hw); rw [matO_S hN1 hN6 hlx hf, hm1, Int.toNat_natCast] at this; exact this
          case hz => exact (fun _ h => by cases h)
          intro va1 vc1 u1 hO1
          simp only [qz]
          refine rg_move ?_
          simp only [qz]
          refine rf_extract rfl rfl rfl rfl ?_
          simp only [qz]
          refine rf_extract rfl rfl rfl rfl ?_
          simp only [qz]
          refine rg_new (cs := ?_) (ty := ?_) (by rfl) (fun w => ?_) (fun _ h => by cases h) (fun g2 => ?_); rotate_left 2
          focus (go_simp; rfl)
          simp only [qz]
          refine rf_storeR (n := 2) rfl rfl (by kernel_rfl) rfl rfl (UpdR.here _ _ _ (Nat.le_of_ble_eq_true rfl)) (fun _ h => by cases h) ?_
          simp only [qz, Nat.reduceAdd]
          refine rg_assign ?_
          simp only [qz]
          refine rg_nil (ek_next (wk_seq (wk_seq ?_)))
          refine wk_region [0, 0] rfl (by kernel_rfl) ?_
          simp only [qy]
          refine rg_move ?_
          simp only [qz]
          refine rf_neq (b := true) rfl rfl rfl rfl (by decide) ?_
          simp only [qz]
          refine rg_nil (ek_next (wk_cond_t rfl (wk_seq ?_)))
          refine wk_region [0, 0, 0, 1, 0, 0] rfl (by kernel_rfl) ?_
          simp only [qy]
          refine rg_move ?_
          simp only [qz]
          refine rf_eql (b := true) rfl rfl rfl rfl (by decide) ?_
          simp only [qz]
          refine rg_move ?_
          simp only [qz]
          apply rg_pure (by rfl) (by kernel_rfl)
          case hargs => (simp only [qm, qs, Act.eval]; exact rfl)
          case h => exact fun w hw => sane_any w
          case hz => exact (fun _ h => by cases h)
          simp only [qz]
          refine rf_pick rfl rfl rfl ?_
          simp only [qz]
          refine rg_assign ?_
          simp only [qz]
          refine rg_nil (ek_next (wk_ret (ek_then_ret ?_)))
          refine ek_ret (fun w hw => ⟨rfl, _, res_t _ rfl, ?_⟩)
          (try simp only [qz])
          first | exact ⟨rfl, hw.below⟩ | exact ⟨trivial, hw.below⟩ | exact hw.below
        obtain ⟨hv1, hu1, he1, hx1⟩ := mat_facts hN1 hN6 hf hm1
        have hl1 := mat_len hv1
        apply (rg_retM (n := (N : Int)) (zs := m1) (c := 0)) (by rfl) (by kernel_rfl)
        case hargs => (simp only [qm, qs, Act.eval]; exact rfl)
        case h => exact fun w hw => by have := matrixOf_any (N : Int) xs a c w (hA.kn0 hw); rw [matO_S hN1 hN6 hlx hf, hm1, Int.toNat_natCast] at this; exact this
        case hz => exact (fun _ h => by cases h)
        intro va3 vc3 u3 hO3
        simp only [qz]
        refine rg_move ?_
        simp only [qz]
        refine rf_extract rfl rfl rfl rfl ?_
        simp only [qz]
        refine rf_extract rfl rfl rfl rfl ?_
        simp only [qz]
        refine rg_new (cs := ?_) (ty := ?_) (by rfl) (fun w => ?_) (fun _ h => by cases h) (fun g4 => ?_); rotate_left 2
        focus (go_simp; rfl)
        simp only [qz]
        refine rf_storeR (n := 2) rfl rfl (by kernel_rfl) rfl rfl (UpdR.here _ _ _ (Nat.le_of_ble_eq_true rfl)) (fun _ h => by cases h) ?_
        simp only [qz, Nat.reduceAdd]
        refine rg_assign ?_
        simp only [qz]
        refine rg_nil (ek_next (wk_seq (wk_seq ?_)))
        refine wk_region [0, 0] rfl (by kernel_rfl) ?_
        simp only [qy]
        refine rg_move ?_
        simp only [qz]
        refine rf_neq (b := false) rfl rfl rfl rfl (by decide) ?_
        simp only [qz]
        refine rg_nil (ek_next (wk_cond_f rfl (wk_skip (ek_next (wk_seq ?_)))))
        refine wk_region [0, 1, 0, 0, 0, 0, 0] rfl (by kernel_rfl) ?_
        simp only [qy]
        refine rf_loadR (n := 2) rfl rfl rfl Try.underlying38 rfl (by kernel_rfl) (fun w hw => Kn.hd0 hw) rfl rfl ?_
        simp only [qz]
        apply rg_pure (by rfl) (by kernel_rfl)
        case hargs => (simp only [qm, qs, Act.eval]; exact rfl)
        case h => exact fun w hw => by have := sleast_any (N : Int) m1 va3 vc3 (by omega) w (OwnN.asM hO3 (Kn.tl hw)); rw [lst_eq hv1 hu1] at this; exact this
        case hz => exact (fun _ h => by cases h)
        simp only [qz]
        refine rg_move ?_
        simp only [qz]
        refine rf_extract rfl rfl rfl rfl ?_
        simp only [qz]
        refine rf_extract rfl rfl rfl rfl ?_
        simp only [qz]
        refine rg_assign ?_
        simp only [qz]
        refine rg_assign ?_
        simp only [qz]
        refine rg_nil (ek_next (wk_seq (wk_seq ?_)))
        refine wk_region [0, 0, 0, 0, 0, 1, 0, 0] rfl (by kernel_rfl) ?_
        simp only [qy]
        refine rg_move ?_
        simp only [qz]
        refine rf_neq (b := false) rfl rfl rfl rfl (by decide) ?_
        simp only [qz]
        refine rg_move ?_
        simp only [qz]
        apply rg_soft_g
        case hg => rfl
        case hy => (intro w hw; go_simp; (try go_bits); exact Yld.mk _ _)
        simp only [qz]
        apply rg_soft_g
        case hg => rfl
        case hy => (intro w hw; go_simp; (try go_bits); exact Yld.mk _ _)
        simp only [qz]
        apply rg_pure (by rfl) (by kernel_rfl)
        case hargs => (simp only [qm, qs, Act.eval]; exact rfl)
        case h => exact fun w hw => rcouplers_any xs a c (by omega) w (hA.kn0 hw)
        case hz => exact (fun _ h => by cases h)
        simp only [qz]
        refine rfb_gtr rfl rfl rfl rfl ?_
        intro x h5
        obtain rfl : x = false := by (refine h5.symm.trans ?_; exact decide_eq_false (by omega))
        clear h5
        simp only [qz]
        refine rf_pick rfl rfl rfl ?_
        simp only [qz]
        refine rg_nil (ek_next (wk_cond_f rfl (wk_skip (ek_next (wk_seq ?_)))))
        refine wk_region [0, 0, 1, 0, 0, 0, 0, 0] rfl (by kernel_rfl) ?_
        simp only [qy]
        refine rg_move ?_
        simp only [qz]
        refine rg_move ?_
        simp only [qz]
        apply rg_retS (by rfl) (by kernel_rfl)
        case hargs => (simp only [qm, qs, Act.eval]; exact rfl)
        case h => exact fun w hw => minverse_any N xs a c hN1 hN6 (by omega) hlx hf w (hA.kn0 hw)
        case hz => exact (fun _ h => by cases h)
        intro vaI vcI uI hOI
        simp only [qz]
        refine rg_move ?_
        simp only [qz]
        refine rf_extract rfl rfl rfl rfl ?_
        simp only [qz]
        refine rf_extract rfl rfl rfl rfl ?_
        simp only [qz]
        refine rg_assign ?_
        simp only [qz]
        refine rg_assign ?_
        simp only [qz]
        refine rg_nil (ek_next (wk_seq ?_))
        refine wk_region [0, 1, 0, 0, 0, 1, 1, 0] rfl (by kernel_rfl) ?_
        simp only [qy]
        refine rf_loadR (n := 2) rfl rfl rfl Try.underlying38 rfl (by kernel_rfl) (fun w hw => Kn.hd0 (Kn.tlU hw)) rfl rfl ?_
        simp only [qz]
        obtain ⟨zs, hdg, hzv, hzt⟩ := dagM_ok (N := N) hv1
        have hzl := mat_len hzv
        apply (rg_retM (n := (N : Int)) (zs := zs) (c := 0)) (by rfl) (by kernel_rfl)
        case hargs => (simp only [qm, qs, Act.eval]; exact rfl)
        case h => exact fun w hw => by have := mdagger_any (N : Int) m1 va3 vc3 (by omega) w (OwnN.asM hO3 (Kn.tl (Kn.tlU hw))); rw [hdg, Int.toNat_natCast] at this; exact this
        case hz => exact (fun _ h => by cases h)
        intro va5 vc5 u5 hO5
        simp only [qz]
        refine rg_move ?_
        simp only [qz]
        refine rf_extract rfl rfl rfl rfl ?_
        simp only [qz]
        refine rf_extract rfl rfl rfl rfl ?_
        simp only [qz]
        refine rg_new (cs := ?_) (ty := ?_) (by rfl) (fun w => ?_) (fun _ h => by cases h) (fun g6 => ?_); rotate_left 2
        focus (go_simp; rfl)
        simp only [qz]
        refine rf_storeR (n := 2) rfl rfl (by kernel_rfl) rfl rfl (UpdR.here _ _ _ (Nat.le_of_ble_eq_true rfl)) (fun _ h => by cases h) ?_
        simp only [qz, Nat.reduceAdd]
        refine rg_assign ?_
        simp only [qz]
        refine rg_nil (ek_next (wk_seq (wk_seq ?_)))
        refine wk_region [0, 0, 0, 0, 0, 0] rfl (by kernel_rfl) ?_
        simp only [qy]
        refine rg_move ?_
        simp only [qz]
        refine rf_neq (b := false) rfl rfl rfl rfl (by decide) ?_
        simp only [qz]
        refine rg_move ?_
        simp only [qz]
        apply rg_soft_g
        case hg => rfl
        case hy => (intro w hw; go_simp; (try go_bits); exact Yld.mk _ _)
        simp only [qz]
        refine rf_neq (b := false) rfl rfl rfl rfl (by decide) ?_
        simp only [qz]
        refine rf_pick rfl rfl rfl ?_
        simp only [qz]
        refine rg_nil (ek_next (wk_cond_f rfl (wk_skip (ek_next (wk_seq ?_)))))
        refine wk_region [0, 0, 1, 0, 0, 0, 1, 1, 0] rfl (by kernel_rfl) ?_
        simp only [qy]
        refine rg_move ?_
        simp only [qz]
        refine rg_move ?_
        simp only [qz]
        rcases hm2 : matS N (invS xs xs.length) (invS xs xs.length).length with c2 | m2
        · have hc2 := matS_lim hN1 hN6 hfi _ (Nat.le_refl _) hm2
          subst hc2
          apply (rg_retM (n := 0) (zs := []) (c := 4)) (by rfl) (by kernel_rfl)
          case hargs => (simp only [qm, qs, Act.eval]; exact rfl)
          case h => exact fun w hw => by have := matrixOf_any (N : Int) (invS xs xs.length) vaI vcI w (OwnT.asT hOI (Kn.tlU (Kn.tl hw))); rw [matO_S hN1 hN6 (by omega) hfi, hm2, Int.toNat_natCast] at this; exact this
          case hz => exact (fun _ h => by cases h)
          intro va7 vc7 u7 hO7
          simp only [qz]
          refine rg_move ?_
          simp only [qz]
          refine rf_extract rfl rfl rfl rfl ?_
          simp only [qz]
          refine rf_extract rfl rfl rfl rfl ?_
          simp only [qz]
          refine rg_new (cs := ?_) (ty := ?_) (by rfl) (fun w => ?_) (fun _ h => by cases h) (fun g8 => ?_); rotate_left 2
          focus (go_simp; rfl)
          simp only [qz]
          refine rf_storeR (n := 2) rfl rfl (by kernel_rfl) rfl rfl (UpdR.here _ _ _ (Nat.le_of_ble_eq_true rfl)) (fun _ h => by cases h) ?_
          simp only [qz, Nat.reduceAdd]
          refine rg_assign ?_
          simp only [qz]
          refine rg_nil (ek_next (wk_seq (wk_seq ?_)))
          refine wk_region [0, 0] rfl (by kernel_rfl) ?_
          simp only [qy]
          refine rg_move ?_
          simp only [qz]
          refine rf_neq (b := true) rfl rfl rfl rfl (by decide) ?_
          simp only [qz]
          refine rg_nil (ek_next (wk_cond_t rfl (wk_seq ?_)))
          refine wk_region [0, 0, 0, 1, 0, 0] rfl (by kernel_rfl) ?_
          simp only [qy]
          refine rg_move ?_
          simp only [qz]
          refine rf_eql (b := true) rfl rfl rfl rfl (by decide) ?_
          simp only [qz]
          refine rg_move ?_
          simp only [qz]
          apply rg_pure (by rfl) (by kernel_rfl)
          case hargs => (simp only [qm, qs, Act.eval]; exact rfl)
          case h => exact fun w hw => sane_any w
          case hz => exact (fun _ h => by cases h)
          simp only [qz]
          refine rf_pick rfl rfl rfl ?_
          simp only [qz]
          refine rg_assign ?_
          simp only [qz]
          refine rg_nil (ek_next (wk_ret (ek_then_ret ?_)))
          refine ek_ret (fun w hw => ⟨rfl, _, res_t _ rfl, ?_⟩)
          (try simp only [qz])
          first | exact ⟨rfl, hw.below⟩ | exact ⟨trivial, hw.below⟩ | exact hw.below
        obtain ⟨hv2, hu2, he2, hx2⟩ := mat_facts hN1 hN6 hfi hm2
        have hl2 := mat_len hv2
        apply (rg_retM (n := (N : Int)) (zs := m2) (c := 0)) (by rfl) (by kernel_rfl)
        case hargs => (simp only [qm, qs, Act.eval]; exact rfl)
        case h => exact fun w hw => by have := matrixOf_any (N : Int) (invS xs xs.length) vaI vcI w (OwnT.asT hOI (Kn.tlU (Kn.tl hw))); rw [matO_S hN1 hN6 (by omega) hfi, hm2, Int.toNat_natCast] at this; exact this
        case hz => exact (fun _ h => by cases h)
        intro va9 vc9 u9 hO9
        simp only [qz]
        refine rg_move ?_
        simp only [qz]
        refine rf_extract rfl rfl rfl rfl ?_
        simp only [qz]
        refine rf_extract rfl rfl rfl rfl ?_
        simp only [qz]
        refine rg_new (cs := ?_) (ty := ?_) (by rfl) (fun w => ?_) (fun _ h => by cases h) (fun g10 => ?_); rotate_left 2
        focus (go_simp; rfl)
        simp only [qz]
        refine rf_storeR (n := 2) rfl rfl (by kernel_rfl) rfl rfl (UpdR.here _ _ _ (Nat.le_of_ble_eq_true rfl)) (fun _ h => by cases h) ?_
        simp only [qz, Nat.reduceAdd]
        refine rg_assign ?_
        simp only [qz]
        refine rg_nil (ek_next (wk_seq (wk_seq ?_)))
        refine wk_region [0, 0] rfl (by kernel_rfl) ?_
        simp only [qy]
        refine rg_move ?_
        simp only [qz]
        refine rf_neq (b := false) rfl rfl rfl rfl (by decide) ?_
        simp only [qz]
        refine rg_nil (ek_next (wk_cond_f rfl (wk_skip (ek_next (wk_seq ?_)))))
        refine wk_region [0, 1, 0, 0, 0, 0, 0] rfl (by kernel_rfl) ?_
        simp only [qy]
        refine rf_loadR (n := 2) rfl rfl rfl Try.underlying38 rfl (by kernel_rfl) (fun w hw => Kn.hd0 hw) rfl rfl ?_
        simp only [qz]
        have hask := ask_cases hv2 hu2
        have hxd := inv_eq hN1 hN6 hf hm1 hzv hzt hm2
        rcases hask with hask | hask
        · apply (rg_retP (T := fun L => ProgL N m2 L) (cc := 0)) (by rfl) (by kernel_rfl)
          case hargs => (simp only [qm, qs, Act.eval]; exact rfl)
          case h => exact fun w hw => by have := prog_any (N : Int) m2 va9 vc9 (by omega) w (OwnN.asM hO9 (Kn.tl hw)); rw [hask, Int.toNat_natCast] at this; exact this.mono fun e w' ⟨L, hP, hr⟩ => ⟨L, hP.1 rfl, hr⟩
          case hz => exact (fun _ h => by cases h)
          intro L vaL vcL uL hP hOL
          simp only [qz]
          have hLl := hP.2.1
          refine rg_move ?_
          simp only [qz]
          refine rf_extract rfl rfl rfl rfl ?_
          simp only [qz]
          refine rf_extract rfl rfl rfl rfl ?_
          simp only [qz]
          refine rg_assign ?_
          simp only [qz]
          refine rg_assign ?_
          simp only [qz]
          refine rg_nil (ek_next (wk_seq (wk_seq ?_)))
          refine wk_region [0, 0] rfl (by kernel_rfl) ?_
          simp only [qy]
          refine rg_move ?_
          simp only [qz]
          refine rf_neq (b := false) rfl rfl rfl rfl (by decide) ?_
          simp only [qz]
          refine rg_nil (ek_next (wk_cond_f rfl (wk_skip (ek_next (wk_seq ?_)))))
          refine wk_region [0, 0, 1, 0, 0, 0, 1, 1, 0] rfl (by kernel_rfl) ?_
          simp only [qy]
          refine rg_move ?_
          simp only [qz]
          refine rg_move ?_
          simp only [qz]
          rcases hm3 : matS N L L.length with c3 | m3
          · have hc3 := matS_lim hN1 hN6 hP.1 _ (Nat.le_refl _) hm3
            subst hc3
            apply (rg_retM (n := 0) (zs := []) (c := 4)) (by rfl) (by kernel_rfl)
            case hargs => (simp only [qm, qs, Act.eval]; exact rfl)
            case h => exact fun w hw => by have := matrixOf_any (N : Int) L vaL vcL w (OwnT.asT hOL hw); rw [matO_S hN1 hN6 hP.2.1 hP.1, hm3, Int.toNat_natCast] at this; exact this
            case hz => exact (fun _ h => by cases h)
            intro va11 vc11 u11 hO11
            simp only [qz]
            refine rg_move ?_
            simp only [qz]
            refine rf_extract rfl rfl rfl rfl ?_
            simp only [qz]
            refine rf_extract rfl rfl rfl rfl ?_
            simp only [qz]
            refine rg_new (cs := ?_) (ty := ?_) (by rfl) (fun w => ?_) (fun _ h => by cases h) (fun g12 => ?_); rotate_left 2
            focus (go_simp; rfl)
            simp only [qz]
            refine rf_storeR (n := 2) rfl rfl (by kernel_rfl) rfl rfl (UpdR.here _ _ _ (Nat.le_of_ble_eq_true rfl)) (fun _ h => by cases h) ?_
            simp only [qz, Nat.reduceAdd]
            refine rg_assign ?_
            simp only [qz]
            refine rg_nil (ek_next (wk_seq ?_))
            refine wk_region [0, 0, 0, 0, 0, 0, 0, 0, 1, 0, 0, 0, 1, 0, 0] rfl (by kernel_rfl) ?_
            simp only [qy]
            refine rg_move ?_
            simp only [qz]
            refine rf_eql (b := true) rfl rfl rfl rfl (by decide) ?_
            simp only [qz]
            refine rg_move ?_
            simp only [qz]
            refine rg_skip (by rfl) ?_
            simp only [qz]
            refine rg_skip (by rfl) ?_
            simp only [qz]
            refine rg_skip (by rfl) ?_
            simp only [qz]
            refine rg_skip (by rfl) ?_
            simp only [qz]
            refine rg_skip (by rfl) ?_
            simp only [qz]
            refine rg_skip_h (by rfl) (fun _ h => by cases h) ?_
            simp only [qz]
            refine rg_skip (by rfl) ?_
            simp only [qz]
            refine rf_pick rfl rfl rfl ?_
            simp only [qz]
            refine rg_move ?_
            simp only [qz]
            apply rg_pure (by rfl) (by kernel_rfl)
            case hargs => (simp only [qm, qs, Act.eval]; exact rfl)
            case h => exact fun w hw => sane_any w
            case hz => exact (fun _ h => by cases h)
            simp only [qz]
            refine rf_pick rfl rfl rfl ?_
            simp only [qz]
            refine rg_assign ?_
            simp only [qz]
            refine rg_nil (ek_next (wk_ret ?_))
            refine ek_ret (fun w hw => ⟨rfl, _, res_t _ rfl, ?_⟩)
            (try simp only [qz])
            first | exact ⟨rfl, hw.below⟩ | exact ⟨trivial, hw.below⟩ | exact hw.below
          obtain ⟨hv3, hu3, he3, hx3⟩ := mat_facts hN1 hN6 hP.1 hm3
          have hl3 := mat_len hv3
          apply (rg_retM (n := (N : Int)) (zs := m3) (c := 0)) (by rfl) (by kernel_rfl)
          case hargs => (simp only [qm, qs, Act.eval]; exact rfl)
          case h => exact fun w hw => by have := matrixOf_any (N : Int) L vaL vcL w (OwnT.asT hOL hw); rw [matO_S hN1 hN6 hP.2.1 hP.1, hm3, Int.toNat_natCast] at this; exact this
          case hz => exact (fun _ h => by cases h)
          intro va13 vc13 u13 hO13
          simp only [qz]
          refine rg_move ?_
          simp only [qz]
          refine rf_extract rfl rfl rfl rfl ?_
          simp only [qz]
          refine rf_extract rfl rfl rfl rfl ?_
          simp only [qz]
          refine rg_new (cs := ?_) (ty := ?_) (by rfl) (fun w => ?_) (fun _ h => by cases h) (fun g14 => ?_); rotate_left 2
          focus (go_simp; rfl)
          simp only [qz]
          refine rf_storeR (n := 2) rfl rfl (by kernel_rfl) rfl rfl (UpdR.here _ _ _ (Nat.le_of_ble_eq_true rfl)) (fun _ h => by cases h) ?_
          simp only [qz, Nat.reduceAdd]
          refine rg_assign ?_
          simp only [qz]
          refine rg_nil (ek_next (wk_seq ?_))
          refine wk_region [0, 0, 0, 0, 0, 0, 0, 0, 1, 0, 0, 0, 1, 0, 0] rfl (by kernel_rfl) ?_
          simp only [qy]
          refine rg_move ?_
          simp only [qz]
          refine rf_eql (b := false) rfl rfl rfl rfl (by decide) ?_
          simp only [qz]
          refine rg_move ?_
          simp only [qz]
          apply rg_soft_g
          case hg => rfl
          case hy => (intro w hw; go_simp; (try go_bits); exact Yld.mk _ _)
          simp only [qz]
          refine rf_eql (b := true) rfl rfl rfl rfl (by decide) ?_
          simp only [qz]
          apply rg_soft_g
          case hg => rfl
          case hy => (intro w hw; go_simp; (try go_bits); exact Yld.mk _ _)
          simp only [qz]
          refine rf_loadR (n := 2) rfl rfl rfl Try.underlying38 rfl (by kernel_rfl) (fun w hw => Kn.hd0 hw) rfl rfl ?_
          simp only [qz]
          refine rf_loadR (n := 2) rfl rfl rfl Try.underlying38 rfl (by kernel_rfl) (fun w hw => Kn.hd0 (Kn.tlU (Kn.tl (Kn.tlU (Kn.tlU (Kn.tl hw)))))) rfl rfl ?_
          simp only [qz]
          have hyx := prog_eq hN1 hN6 hv2 hu2 hP hm3
          subst hyx
          subst hxd
          apply rg_pure (by rfl) (by kernel_rfl)
          case hargs => (simp only [qm, qs, Act.eval]; exact rfl)
          case h => exact fun w hw => rSameM_eq (N : Int) m3 _ _ _ _ (by omega) w (OwnN.asM hO13 (Kn.tl hw)) (OwnN.asM hO5 (Kn.tl (Kn.tlU (Kn.tl (Kn.tlU (Kn.tlU (Kn.tl hw)))))))
          case hz => exact (fun _ h => by cases h)
          simp only [qz]
          refine rf_pick rfl rfl rfl ?_
          simp only [qz]
          refine rf_pick rfl rfl rfl ?_
          simp only [qz]
          refine rg_move ?_
          simp only [qz]
          apply rg_pure (by rfl) (by kernel_rfl)
          case hargs => (simp only [qm, qs, Act.eval]; exact rfl)
          case h => exact fun w hw => sane_any w
          case hz => exact (fun _ h => by cases h)
          simp only [qz]
          refine rf_pick rfl rfl rfl ?_
          simp only [qz]
          refine rg_assign ?_
          simp only [qz]
          refine rg_nil (ek_next (wk_ret ?_))
          refine ek_ret (fun w hw => ⟨rfl, _, res_t _ rfl, ?_⟩)
          (try simp only [qz])
          first | exact ⟨rfl, hw.below⟩ | exact ⟨trivial, hw.below⟩ | exact hw.below
        apply (rg_retP (T := fun L => L = []) (cc := 4)) (by rfl) (by kernel_rfl)
        case hargs => (simp only [qm, qs, Act.eval]; exact rfl)
        case h => exact fun w hw => by have := prog_any (N : Int) m2 va9 vc9 (by omega) w (OwnN.asM hO9 (Kn.tl hw)); rw [hask, Int.toNat_natCast] at this; exact this.mono fun e w' ⟨L, hP, hr⟩ => ⟨L, hP.2 (by decide), hr⟩
        case hz => exact (fun _ h => by cases h)
        intro L vaL vcL uL hP hOL
        simp only [qz]
        refine rg_move ?_
        simp only [qz]
        refine rf_extract rfl rfl rfl rfl ?_
        simp only [qz]
        refine rf_extract rfl rfl rfl rfl ?_
        simp only [qz]
        refine rg_assign ?_
        simp only [qz]
        refine rg_assign ?_
        simp only [qz]
        refine rg_nil (ek_next (wk_seq (wk_seq ?_)))
        refine wk_region [0, 0] rfl (by kernel_rfl) ?_
        simp only [qy]
        refine rg_move ?_
        simp only [qz]
        refine rf_neq (b := true) rfl rfl rfl rfl (by decide) ?_
        simp only [qz]
        refine rg_nil (ek_next (wk_cond_t rfl (wk_seq ?_)))
        refine wk_region [0, 0, 0, 1, 0, 0] rfl (by kernel_rfl) ?_
        simp only [qy]
        refine rg_move ?_
        simp only [qz]
        refine rf_eql (b := true) rfl rfl rfl rfl (by decide) ?_
        simp only [qz]
        refine rg_move ?_
        simp only [qz]
        apply rg_pure (by rfl) (by kernel_rfl)
        case hargs => (simp only [qm, qs, Act.eval]; exact rfl)
        case h => exact fun w hw => sane_any w
        case hz => exact (fun _ h => by cases h)
        simp only [qz]
        refine rf_pick rfl rfl rfl ?_
        simp only [qz]
        refine rg_assign ?_
        simp only [qz]
        refine rg_nil (ek_next (wk_ret (ek_then_ret ?_)))
        refine ek_ret (fun w hw => ⟨rfl, _, res_t _ rfl, ?_⟩)
        (try simp only [qz])
        first | exact ⟨rfl, hw.below⟩ | exact ⟨trivial, hw.below⟩ | exact hw.below
      (try simp only [qd, ne_eq] at h3)
      simp only [qz]
      refine rf_pick rfl rfl rfl ?_
      simp only [qz]
      refine rg_move ?_
      simp only [qz]
      refine rg_skip (by rfl) ?_
      simp only [qz]
      refine rg_skip (by rfl) ?_
      simp only [qz]
      refine rg_skip_h (by rfl) (fun _ h => by cases h) ?_
      simp only [qz]
      refine rg_skip (by rfl) ?_
      simp only [qz]
      refine rf_pick rfl rfl rfl ?_
      simp only [qz]
      refine rg_nil (ek_next (wk_cond_t rfl (wk_seq ?_)))
      refine wk_region [1, 0] rfl (by kernel_rfl) ?_
      simp only [qy]
      apply rg_pure (by rfl) (by kernel_rfl)
      case hargs => (simp only [qm, qs, Act.eval]; exact rfl)
      case h => exact fun w hw => sane_any w
      case hz => exact (fun _ h => by cases h)
      simp only [qz]
      refine rg_assign ?_
      simp only [qz]
      refine rg_nil (ek_next (wk_ret (ek_then_ret ?_)))
      refine ek_ret (fun w hw => ⟨rfl, _, res_t _ rfl, ?_⟩)
      (try simp only [qz])
      first | exact ⟨rfl, hw.below⟩ | exact ⟨trivial, hw.below⟩ | exact hw.below
    (try simp only [qd, ne_eq] at h2)
    simp only [qz]
    refine rf_pick rfl rfl rfl ?_
    simp only [qz]
    refine rg_move ?_
    simp only [qz]
    refine rg_skip (by rfl) ?_
    simp only [qz]
    refine rg_skip (by rfl) ?_
    simp only [qz]
    refine rf_pick rfl rfl rfl ?_
    simp only [qz]
    refine rg_move ?_
    simp only [qz]
    refine rg_skip (by rfl) ?_
    simp only [qz]
    refine rg_skip (by rfl) ?_
    simp only [qz]
    refine rg_skip_h (by rfl) (fun _ h => by cases h) ?_
    simp only [qz]
    refine rg_skip (by rfl) ?_
    simp only [qz]
    refine rf_pick rfl rfl rfl ?_
    simp only [qz]
    refine rg_nil (ek_next (wk_cond_t rfl (wk_seq ?_)))
    refine wk_region [1, 0] rfl (by kernel_rfl) ?_
    simp only [qy]
    apply rg_pure (by rfl) (by kernel_rfl)
    case hargs => (simp only [qm, qs, Act.eval]; exact rfl)
    case h => exact fun w hw => sane_any w
    case hz => exact (fun _ h => by cases h)
    simp only [qz]
    refine rg_assign ?_
    simp only [qz]
    refine rg_nil (ek_next (wk_ret (ek_then_ret ?_)))
    refine ek_ret (fun w hw => ⟨rfl, _, res_t _ rfl, ?_⟩)
    (try simp only [qz])
    first | exact ⟨rfl, hw.below⟩ | exact ⟨trivial, hw.below⟩ | exact hw.below
  (try simp only [qd, ne_eq] at h1)
  simp only [qz]
  refine rg_move ?_
  simp only [qz]
  refine rg_skip (by rfl) ?_
  simp only [qz]
  refine rg_skip (by rfl) ?_
  simp only [qz]
  refine rf_pick rfl rfl rfl ?_
  simp only [qz]
  refine rg_move ?_
  simp only [qz]
  refine rg_skip (by rfl) ?_
  simp only [qz]
  refine rg_skip (by rfl) ?_
  simp only [qz]
  refine rf_pick rfl rfl rfl ?_
  simp only [qz]
  refine rg_move ?_
  simp only [qz]
  refine rg_skip (by rfl) ?_
  simp only [qz]
  refine rg_skip (by rfl) ?_
  simp only [qz]
  refine rg_skip_h (by rfl) (fun _ h => by cases h) ?_
  simp only [qz]
  refine rg_skip (by rfl) ?_
  simp only [qz]
  refine rf_pick rfl rfl rfl ?_
  simp only [qz]
  refine rg_nil (ek_next (wk_cond_t rfl (wk_seq ?_)))
  refine wk_region [1, 0] rfl (by kernel_rfl) ?_
  simp only [qy]
  apply rg_pure (by rfl) (by kernel_rfl)
  case hargs => (simp only [qm, qs, Act.eval]; exact rfl)
  case h => exact fun w hw => sane_any w
  case hz => exact (fun _ h => by cases h)
  simp only [qz]
  refine rg_assign ?_
  simp only [qz]
  refine rg_nil (ek_next (wk_ret (ek_then_ret ?_)))
  refine ek_ret (fun w hw => ⟨rfl, _, res_t _ rfl, ?_⟩)
  (try simp only [qz])
  first | exact ⟨rfl, hw.below⟩ | exact ⟨trivial, hw.below⟩ | exact hw.below

end Go.Proofs.Ytccbinnlnkpplaa
namespace Go.Proofs.Ytccbinnlnkpplaa
set_option linter.all false
open Go.ChangeShapes Go.WideShapes Go.ChangeAt Go.RowKit

theorem its_of_each {Q : Nat → It → Prop} : ∀ n : Nat, (∀ i, i < n → ∃ x, Q i x) → ∃ xs : List It, xs.length = n ∧ ∀ i, i < n → Q i (it xs i)
  | 0, _ => ⟨[], rfl, fun i hi => by omega⟩
  | n + 1, h => by
    obtain ⟨xs, hl, hx⟩ := its_of_each n fun i hi => h i (by omega)
    obtain ⟨x, hq⟩ := h n (by omega)
    refine ⟨xs ++ [x], by simp [hl], fun i hi => ?_⟩
    by_cases e : i = n
    · subst e
      have : it (xs ++ [x]) i = x := by unfold it; rw [List.getD_eq_getElem?_getD, ← hl]; simp
      rw [this]; exact hq
    · have : it (xs ++ [x]) i = it xs i := by unfold it; rw [List.getD_eq_getElem?_getD, List.getD_eq_getElem?_getD, List.getElem?_append_left (by omega)]
      rw [this]; exact hx i (by omega)
theorem cellsIT : Try.prog.cellsOf 80 = 4 := by kernel_rfl
theorem cellsInt : Try.prog.cellsOf 3 = 1 := by kernel_rfl
theorem cellsStr : Try.prog.cellsOf 9 = 1 := by kernel_rfl
def ItWf (i : It) : Prop := (Lit.int .i64 i.kind).wf = true ∧ (Lit.int .i64 i.at_).wf = true ∧ (Lit.int .i64 i.n).wf = true ∧ i.name.size ≤ maxLen
set_option maxRecDepth 100000 in
theorem open_asT {H : Type} {enc : TypeId × Value → H} {W : World} {base : Nat} {v : Value} {d : DataW H} {p : List MemPlace}
    (hval : Value.okWide Try.prog W .any base 32 v) (h : DataW.Trod enc Try.prog W 0 (fun _ => true) true 32 v d p) (hlt : ∀ x ∈ p, x.block < W.heap.size) :
    ∃ (xs : List It) (a : Option Addr) (c : Nat), v = .slice a xs.length c ∧ AS W a (its xs) ∧ (∀ x ∈ xs, ItWf x) ∧ xs.length ≤ maxLen := by
  obtain ⟨a0, len, cap, rfl⟩ := okWide_slice Try.underlying32 hval
  obtain ⟨fuel, hf⟩ := h
  rcases Go.Deep.open_slice Try.underlying32 hf with ⟨hcs, hx⟩ | ⟨a, len', cap', m, n, D, Pl, hcs, _, hl, hm, hmm, hx, hel⟩
  · simp [Value.cells] at hcs
    obtain ⟨rfl, rfl, rfl⟩ := hcs
    exact ⟨[], none, 0, rfl, AS.nil, by simp, by simp⟩
  · simp [Value.cells] at hcs
    obtain ⟨rfl, rfl, rfl⟩ := hcs
    simp only [Prod.mk.injEq] at hx
    obtain ⟨rfl, rfl⟩ := hx
    simp only [if_true] at hmm
    subst hmm
    have each : ∀ i, i < len → ∃ x : It, (∀ r, r < 4 → W.cell? ((a.add (i * 4)).add r) = (itC x)[r]?) ∧ ItWf x := by
      intro i hi
      obtain ⟨cs', h1, h2⟩ := hel i (by omega)
      rw [cellsIT] at h1
      obtain ⟨_, hlen, hcell⟩ := World.cells?_some h1
      obtain ⟨y0, y1, y2, y3, k, _, hl4, t0, t1, t2, t3⟩ := Go.Joins.trod_struct4 Try.underlying80 h2
      match cs', hlen with
      | [v0, v1, v2, v3], _ =>
        simp only [cellsInt, cellsStr, List.drop_succ_cons, List.drop_zero, List.take_succ_cons, List.take_zero] at t0 t1 t2 t3
        obtain ⟨n0, e0, -, w0⟩ := DataW.trod_int Try.underlying3 t0
        obtain ⟨n1, e1, -, w1⟩ := DataW.trod_int Try.underlying3 t1
        obtain ⟨n2, e2, -, w2⟩ := DataW.trod_int Try.underlying3 t2
        obtain ⟨s3, e3, -, w3⟩ := DataW.trod_string Try.underlying9 t3
        simp only [List.cons.injEq, and_true] at e0 e1 e2 e3
        subst e0 e1 e2 e3
        exact ⟨⟨n0, n1, n2, s3⟩, fun r hr => hcell r hr, w0, w1, w2, w3⟩
    obtain ⟨xs, hxl, hxx⟩ := its_of_each len each
    subst hxl
    refine ⟨xs, some a, _, rfl, fun hne => ?_, fun x hx => ?_, by omega⟩
    · have h0 : 0 < xs.length := by
        rcases Nat.eq_zero_or_pos xs.length with h0 | h0
        · have := List.eq_nil_of_length_eq_zero h0; subst this; exact absurd rfl hne
        · exact h0
      obtain ⟨b, off, spot⟩ := a
      have hspot : spot = none := by
        have h1 := (hxx 0 h0).1 0 (by omega)
        have h2 : W.cell? (((⟨b, off, spot⟩ : Addr).add (0 * 4)).add 0) = some (.int .i64 (it xs 0).kind) := h1
        simpa [Addr.add] using World.cell?_spot h2
      subst hspot
      refine ⟨b, off, rfl, hlt (.cell b off) (List.mem_append_left _ (MemPlace.mem_row.2 ⟨0, by rw [cellsIT]; omega, by simp⟩)), fun j hj => ?_⟩
      rw [its_len] at hj
      have h1 := (hxx (j / 4) (by omega)).1 (j % 4) (Nat.mod_lt _ (by omega))
      have h2 := its_get xs (j / 4) (j % 4) (by omega) (Nat.mod_lt _ (by omega))
      have e : j / 4 * 4 + j % 4 = j := by omega
      rw [e] at h2
      rw [h2, ← h1]
      have e2 : ((⟨b, off, none⟩ : Addr).add (j / 4 * 4)).add (j % 4) = ⟨b, off + j, none⟩ := by
        have ap : ∀ o i : Nat, (⟨b, o, none⟩ : Addr).add i = ⟨b, o + i, none⟩ := fun o i => by simp [Addr.add]
        rw [ap, ap, show off + j / 4 * 4 + j % 4 = off + j by omega]
      rw [e2]
    · obtain ⟨j, hj, e⟩ := List.getElem_of_mem hx
      have : it xs j = x := by unfold it; rw [List.getD_eq_getElem?_getD, List.getElem?_eq_getElem hj]; exact e
      rw [← this]; exact (hxx j hj).2
end Go.Proofs.Ytccbinnlnkpplaa
