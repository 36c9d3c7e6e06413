/- Texts in one: Pg3, Sf, Pg4, Pg7, WdPl, Add64, Sub64, WtP, Xi, BgPl, Bg, Bg1, Bg2, Bg3, Bgm, Bg4, Bg5. -/
import Derived.Test.YtccbinnlnkpplaaGreatLProgramsF
import Derived.Shelf.Spec.BitsCarry
namespace Go.Proofs.YtccbinnlnkpplaaGreat
set_option linter.all false
set_option maxRecDepth 100000
set_option maxHeartbeats 1000000
open Go.RowKit
theorem wcouple_any (N p gw : Nat) (z : Zt) (L : List It) (s : List Blk) (hS : WS N gw z L s) (hN : N ≤ 6) (hL : L.length ≤ 100000) (hp : p + 1 < N) (w : World) (hK : Kn w (s.map (·.1)) s w) : Calls Tryz.prog 74 #[.pointer (some ⟨gw, 0, none⟩), .int .i64 (p : Int)] w fun e w' => e = .returned (.tuple #[]) ∧ ∃ s', Kn w (s.map (·.1)) s' w' ∧ WS N gw (cpZ p z) (L ++ [cplI ((p : Int) + 1)]) s' := by
 obtain ⟨go, oc, ro, rs, ia, ic, u, rfl, hrl, hoc, hlen, hval, hO, hok⟩ := hS
 obtain ⟨A, b, c, l, r, b1, c1, l1, r1, C, rfl, hA⟩ := split2 (p := p) (rs := rs) Ox
 have hll : l.length = N := hlen ⟨b, c, l, r⟩ (by simp)
 have hll1 : l1.length = N := hlen ⟨b1, c1, l1, r1⟩ (by simp)
 rw [rw_two, List.append_assoc, List.cons_append, List.cons_append] at hK ⊢
 go_enter Tryz.func74, Tryz.ntmps74
 refine wk_startF hK ?_
 refine wk_seq (wk_seq ?_)
 refine wk_region [0, 0, 0, 0, 0, 0, 0, 0, 0] rfl Kx ?_
 refine Zm ?_
 refine Zk ?_
 refine rf_field (n := 0) (j := 0) rfl rfl rfl Tryz.underlying49 rfl Kx rfl ?_
 simp only [qz]
 refine rf_load rfl rfl rfl Tryz.underlying47 rfl (fun w hw => (Kn.hd0 hw).at rfl) ?_
 refine Zm ?_
 refine rf_indexS (n := p) (sz := 1) (j := p) rfl rfl rfl rfl Tryz.underlying47 Kx Ox Ox Ox ?_
 simp only [qz]
 refine rf_load (v := .slice (some ⟨b, 0, none⟩) N c) rfl rfl rfl Tryz.underlying22 rfl (fun w hw => Kn.outer (Kn.tl hw) (at_oneP hA)) ?_
 simp only [qz]
 refine rf_len rfl rfl rfl Tryz.underlying22 ?_
 refine Zm ?_
 refine rg_nil (ek_next (wk_block ?_))
 refine wk_loopF [4, 5, 6, 15, 16, 17, 18, 19, 20, 21, 22, 23, 24, 25, 26, 27, 28, 29, 30, 31, 32, 33, 34, 35, 36, 37, 38, 39, 40, 41, 42, 43, 44, 45, 46, 47, 48, 49, 50, 51, 52, 53, 54, 55, 56, 57, 58, 59, 60, 61, 62, 63, 64, 65, 66, 67, 68, 69, 70, 71, 72, 73, 74, 75, 76, 77, 78] (fun mz f s => ∃ (k : Nat), f 15 = .int .i64 k ∧ s = ((gw, .cells #[.slice (some ⟨go, 0, none⟩) N oc, .slice ia L.length ic] 49) :: ((go, .cells (rwV N (A ++ ⟨b, c, l, r⟩ :: ⟨b1, c1, l1, r1⟩ :: C) ++ ro).toArray 22) :: (rwB A ++ ((b, .cells (NmE.flat (wrS l (fun k => cX (z p k) (z (p + 1) k)) k) ++ r).toArray 55) :: ((b1, .cells (NmE.flat (wrS l1 (fun k => cY (z p k) (z (p + 1) k)) k) ++ r1).toArray 55) :: (rwB C ++ (u ++ []))))))) ∧ mz = N - k ∧ k ≤ N) ((fun (k : Nat) => N - k) (0)) ?_ Kx ?_
 ·exact ⟨0, rfl, (by rw [wrS_zero, wrS_zero]), rfl, by omega⟩
 rintro mz f1 s ⟨k, hs1_15, rfl, hn, hc1⟩
 simp only [Act.putF, List.foldl_cons, List.foldl_nil, hs1_15, Act.put, Act.eval, q1, q2, q3, q4, q5, q6, q7, q8, q9, q10, q11, q12, q13, q14, q15, q16, q17, q18, Nat.reduceAdd, Bool.not_true, Bool.not_false]
 clear hs1_15
 refine wk_seq ?_
 refine wk_region [0] rfl Kx ?_
 simp only [qy]
 refine rfb_lss rfl rfl rfl rfl ?_
 intro x h1
 cases x
 ·(try simp only [qd, ne_eq] at h1)
  simp only [qz]; refine rg_nil (ek_next (wk_seq (wk_cond_f rfl (wk_exit (ek_then_exit (ek_then_exit (ek_block_exit (ek_next ?_)))))))); refine wk_region [0, 0, 0, 0, 0, 0, 0, 0, 1, 1, 0, 0, 1] rfl Kx ?_; refine Zm ?_; refine Zk ?_; refine rf_field (n := 0) (j := 1) rfl rfl rfl Tryz.underlying49 rfl Kx rfl ?_; simp only [qz]; refine rf_load rfl rfl rfl Tryz.underlying26 rfl (fun w hw => (Kn.hd0 hw).at rfl) ?_; refine Zm ?_
  refine rf_add rfl rfl rfl rfl (wrap_ok Ox Ox) ?_; simp only [qz]; refine rf_build (cs := fun a => #[a.eval (.const (.int .i64 2)), a.eval (.tmp 85), .int .i64 0, .string ⟨#[]⟩]) rfl rfl Kx ?_; simp only [qz]
  refine rg_newS (cs := ?_) (ty := ?_) (n := 1) (c := 1) Rx (fun w => ?_) Nz (fun g1 => ?_); rotate_left 2
  focus (go_simp; rfl)
  simp only [qz]; refine rg_appendT (xs := L) (x := cplI ((p : Int) + 1)) Rx rfl hO rfl Ox ((((((((((((((((List.Perm.refl _).append_left _).trans (List.perm_append_comm_assoc (rwB C) u _)).cons _).trans (List.perm_middle (l₁ := u)).symm).cons _).trans (List.perm_middle (l₁ := u)).symm).append_left _).trans (List.perm_append_comm_assoc (rwB A) u _)).cons _).trans (List.perm_middle (l₁ := u)).symm).cons _).trans (List.perm_middle (l₁ := u)).symm).cons _).trans (List.perm_middle (l₁ := u)).symm).trans ((List.Perm.refl _).append_left _)) (fun w hw => Kn.hd0 hw) Nz (fun uQ vQ hOQ => ?_)
  obtain ⟨aQ, cQ, rfl, -⟩ := Own.val hOQ
  simp only [qz]; refine Zk ?_; refine rf_field (n := 0) (j := 1) rfl rfl rfl Tryz.underlying49 rfl Kx rfl ?_; simp only [qz]; refine rf_store rfl rfl Kx rfl rfl (UpdR.app _ (UpdR.there _ (UpdR.here _ _ _ Nl))) Nz ?_; simp only [qz]; refine rg_nil ?_; refine ek_perm ((((((List.Perm.refl _).cons _).trans (List.Perm.swap _ _ _)).append_left _).trans (List.perm_middle (l₁ := uQ))).trans (((((((List.Perm.refl _).cons _).trans (List.Perm.swap _ _ _)).append_left _).trans (List.perm_middle (l₁ := uQ))).trans (((((((List.Perm.refl _).cons _).trans (List.perm_middle (l₁ := (rwB A))).symm).append_left _).trans (List.perm_append_comm_assoc uQ (rwB A) _)).trans (((((((List.Perm.refl _).cons _).trans (List.Perm.swap _ _ _)).append_left _).trans (List.perm_middle (l₁ := uQ))).trans (((((((List.Perm.refl _).cons _).trans (List.Perm.swap _ _ _)).append_left _).trans (List.perm_middle (l₁ := uQ))).trans (((((((List.Perm.refl _).cons _).trans (List.perm_middle (l₁ := (rwB C))).symm).append_left _).trans (List.perm_append_comm_assoc uQ (rwB C) _)).trans ((List.Perm.refl _).append_left _)).cons _)).cons _)).append_left _)).cons _)).cons _)) ?_
  refine ek_sub (sc _ (sc _ (List.Sublist.append_left (sc _ (sc _ (List.Sublist.append_left (List.Sublist.append_left (sk _ sn) _) _))) _))) ?_; refine ek_norm (fun w hw => ⟨rfl, _, res_0 rfl, ?_⟩); (try simp only [qz])
  obtain rfl : k = N := by omega
  have hW := WS.wrote2 (gw := gw) (go := go) (oc := oc) (ro := ro) (z := z) (z' := cpZ p z) (L := L ++ [cplI ((p : Int) + 1)]) (ia := aQ) (ic := cQ) (u := uQ) (f := (fun k => cX (z p k) (z (p + 1) k))) (g := (fun k => cY (z p k) (z (p + 1) k))) hA hrl hoc hlen hval hOQ (fun i k' hi hk' => by unfold cpZ; split; exact (cX_ok (hok p k' Ox hk') (hok (p + 1) k' hp hk')).2; split; exact (cY_ok (hok p k' Ox hk') (hok (p + 1) k' hp hk')).2; exact hok i k' hi hk') (fun k' hk' => (if_pos rfl).symm) (fun k' hk' => by unfold cpZ; rw [if_neg Ox, if_pos rfl]) (fun i k' h1 h2 _ _ => by unfold cpZ; rw [if_neg h1, if_neg h2])
  exact ⟨(by first | rfl | trivial), _, hw, hW⟩
 (try simp only [qd, ne_eq] at h1)
 simp only [qz]
 refine rg_nil (ek_next (wk_seq (wk_cond_t rfl (wk_skip (ek_next (wk_seq (wk_block (wk_seq ?_))))))))
 have hkN : k < N := by omega
 have hkl : k < l.length := by rw [hll]; exact hkN
 have hkl1 : k < l1.length := by rw [hll1]; exact hkN
 have hzk : nm (wrS l (fun k => cX (z p k) (z (p + 1) k)) k) k = z p k := by rw [wrS_nm hkl, if_neg Ox]; exact hval p ⟨b, c, l, r⟩ (at_oneP hA) k hkN
 have hzk1 : nm (wrS l1 (fun k => cY (z p k) (z (p + 1) k)) k) k = z (p + 1) k := by rw [wrS_nm hkl1, if_neg Ox]; exact hval (p + 1) ⟨b1, c1, l1, r1⟩ (at_twoP hA) k hkN
 have hok1 := hok p k Ox hkN
 have hok2 := hok (p + 1) k hp hkN
 have hcx := cX_ok hok1 hok2
 have hcy := cY_ok hok1 hok2
 refine wk_region [0, 0, 0, 1, 0, 1] rfl Kx ?_
 refine Zm ?_
 refine rf_indexS (n := k) (sz := 5) (j := 0 + k * 5) rfl rfl rfl rfl Tryz.underlying22 Kx Ox Ox rfl ?_
 simp only [qz]
 refine rf_loadC (n := 5) (vs := [.int .i64 (z p k).a, .int .i64 (z p k).b, .int .i64 (z p k).c, .int .i64 (z p k).d, .int .i64 (z p k).k]) rfl rfl rfl Tryz.underlying55 rfl Kx rfl (fun w hw => atN_range (by have := nm_hd (Kn.hd0 (Kn.tlU (Kn.tl (Kn.tl hw)))) (k := k) (by rw [wrS_len]; omega); rw [hzk] at this; exact this)) ?_
 simp only [qz]
 refine Rgn fun g2 => ?_
 refine Zm ?_
 refine rf_storeR (n := 5) rfl rfl Kx rfl rfl (UpdR.here _ _ _ Nl) Nz ?_
 simp only [qz, Nat.reduceAdd]
 refine rg_nil (ek_next (wk_seq ?_))
 refine wk_region [0, 0, 0, 0, 0, 0, 0, 0, 0, 0, 0, 1, 1] rfl Kx ?_
 refine Zm ?_
 refine Zk ?_
 refine rf_field (n := 0) (j := 0) rfl rfl rfl Tryz.underlying49 rfl Kx rfl ?_
 simp only [qz]
 refine rf_load rfl rfl rfl Tryz.underlying47 rfl (fun w hw => (Kn.hd0 (Kn.tl hw)).at rfl) ?_
 refine Zm ?_
 refine rf_add rfl rfl rfl rfl (wrap_ok Ox Ox) ?_
 simp only [qz]
 refine rf_indexS (n := p + 1) (sz := 1) (j := p + 1) rfl rfl rfl rfl Tryz.underlying47 Kx Ox Ox Ox ?_
 simp only [qz]
 refine rf_load (v := .slice (some ⟨b1, 0, none⟩) N c1) rfl rfl rfl Tryz.underlying22 rfl (fun w hw => Kn.outer (Kn.tl (Kn.tl hw)) (at_twoP hA)) ?_
 refine Zm ?_
 refine rf_indexS (n := k) (sz := 5) (j := 0 + k * 5) rfl rfl rfl rfl Tryz.underlying22 Kx Ox Ox rfl ?_
 simp only [qz]
 refine rf_loadC (n := 5) (vs := [.int .i64 (z (p + 1) k).a, .int .i64 (z (p + 1) k).b, .int .i64 (z (p + 1) k).c, .int .i64 (z (p + 1) k).d, .int .i64 (z (p + 1) k).k]) rfl rfl rfl Tryz.underlying55 rfl Kx rfl (fun w hw => atN_range (by have := nm_hd (Kn.hd0 (Kn.tl (Kn.tlU (Kn.tl (Kn.tl (Kn.tl hw)))))) (k := k) (by rw [wrS_len]; omega); rw [hzk1] at this; exact this)) ?_
 simp only [qz]
 refine Rgn fun g3 => ?_
 simp only [qz]
 refine rf_storeR (n := 5) rfl rfl Kx rfl rfl (UpdR.here _ _ _ Nl) Nz ?_
 simp only [qz, Nat.reduceAdd]
 refine rg_nil (ek_next (wk_seq ?_))
 refine wk_draws_m (hz1 := (sc _ (sc _ (sc _ (sc _ (List.Sublist.append_left (sk _ (sc _ (List.Sublist.append_left (List.Sublist.append_left sn _) _))) _)))))) [(0, 0), (1, 0), (2, 0), (3, 0), (4, 0), (5, 0), (6, 0), (7, 0), (8, 0), (9, 0), (10, 1), (11, 0), (12, 0), (13, 1), (14, 1), (15, 0), (16, 0), (17, 1), (18, 1), (19, 0), (20, 0), (21, 1), (22, 0), (23, 2)] 23 Kx Kx (fun c d v a w h => by cases d <;> exact h) ?_
 simp only [List.map_cons, List.map_nil, List.getD_cons_zero, List.getD_cons_succ]
 refine Zm ?_
 refine Zk ?_
 refine rf_field (n := 0) (j := 0) rfl rfl rfl Tryz.underlying49 rfl Kx rfl ?_
 simp only [qz]
 refine rf_load rfl rfl rfl Tryz.underlying47 rfl (fun w hw => (Kn.hd0 (Kn.tl (Kn.tl hw))).at rfl) ?_
 refine Zm ?_
 refine rf_indexS (n := p) (sz := 1) (j := p) rfl rfl rfl rfl Tryz.underlying47 Kx Ox Ox Ox ?_
 simp only [qz]
 refine rf_load (v := .slice (some ⟨b, 0, none⟩) N c) rfl rfl rfl Tryz.underlying22 rfl (fun w hw => Kn.outer (Kn.tl (Kn.tl (Kn.tl hw))) (at_oneP hA)) ?_
 refine Zm ?_
 refine rf_loadR (n := 5) rfl rfl rfl Tryz.underlying55 rfl Kx (fun w hw => Kn.hd0 (Kn.tl hw)) rfl rfl ?_
 simp only [qz]
 refine rf_loadR (n := 5) rfl rfl rfl Tryz.underlying55 rfl Kx (fun w hw => Kn.hd0 hw) rfl rfl ?_
 simp only [qz]
 apply rg_pure Rx Kx
 case hargs => exact Ax
 case h => exact fun w hw => amTurn2 (z (p + 1) k) hok2 w
 case hz => exact (fun _ h => by cases h; exact (sc _ (sc _ (sc _ (sc _ (List.Sublist.append_left (sc _ (sc _ (List.Sublist.append_left (List.Sublist.append_left sn _) _))) _))))))
 simp only [qz]
 refine rf_extract rfl rfl rfl rfl ?_
 simp only [qz]
 refine rf_extract rfl rfl rfl rfl ?_
 simp only [qz]
 apply rg_pure Rx Kx
 case hargs => exact Ax
 case h => exact fun w hw => must_any (z (p + 1) k).rot.rot 0 w
 case hz => exact (fun _ h => by cases h; exact (sc _ (sc _ (sc _ (sc _ (List.Sublist.append_left (sc _ (sc _ (List.Sublist.append_left (List.Sublist.append_left sn _) _))) _))))))
 simp only [qz]
 apply rg_pure Rx Kx
 case hargs => exact Ax
 case h => exact fun w hw => amAdd_mt (z p k) (z (p + 1) k).rot.rot hok1 (rot_ok (rot_ok hok2)) w
 case hz => exact (fun _ h => by cases h; exact (sc _ (sc _ (sc _ (sc _ (List.Sublist.append_left (sc _ (sc _ (List.Sublist.append_left (List.Sublist.append_left sn _) _))) _))))))
 simp only [qz]
 refine rf_extract rfl rfl rfl rfl ?_
 simp only [qz]
 refine rf_extract rfl rfl rfl rfl ?_
 simp only [qz]
 apply rg_pure Rx Kx
 case hargs => exact Ax
 case h => exact fun w hw => must_any (mtR ((z p k).add (z (p + 1) k).rot.rot)) (errI ((z p k).add (z (p + 1) k).rot.rot)) w
 case hz => exact (fun _ h => by cases h; exact (sc _ (sc _ (sc _ (sc _ (List.Sublist.append_left (sc _ (sc _ (List.Sublist.append_left (List.Sublist.append_left sn _) _))) _))))))
 simp only [qz]
 apply rg_pure Rx Kx
 case hargs => exact Ax
 case h => exact fun w hw => amHalve_mt (mtR ((z p k).add (z (p + 1) k).rot.rot)) hcx.1 w
 case hz => exact (fun _ h => by cases h; exact (sc _ (sc _ (sc _ (sc _ (List.Sublist.append_left (sc _ (sc _ (List.Sublist.append_left (List.Sublist.append_left sn _) _))) _))))))
 simp only [qz]
 refine rf_extract rfl rfl rfl rfl ?_
 simp only [qz]
 refine rf_extract rfl rfl rfl rfl ?_
 simp only [qz]
 apply rg_pure Rx Kx
 case hargs => exact Ax
 case h => exact fun w hw => must_any (cX (z p k) (z (p + 1) k)) (errI ((mtR ((z p k).add (z (p + 1) k).rot.rot)).halve 1)) w
 case hz => exact (fun _ h => by cases h; exact (sc _ (sc _ (sc _ (sc _ (List.Sublist.append_left (sc _ (sc _ (List.Sublist.append_left (List.Sublist.append_left sn _) _))) _))))))
 simp only [qz]
 refine rf_indexS (n := k) (sz := 5) (j := 0 + k * 5) rfl rfl rfl rfl Tryz.underlying22 Kx Ox Ox rfl ?_
 simp only [qz]
 have hszb := nm_szM (wrS l (fun k => cX (z p k) (z (p + 1) k)) k) k (cX (z p k) (z (p + 1) k)) r (by rw [wrS_len]; exact hkl)
 refine rf_storeRM (n := 5) (vs := nmC (cX (z p k) (z (p + 1) k))) rfl rfl Kx rfl rfl (UpdR.there _ (UpdR.there _ (UpdR.there _ (UpdR.there _ (UpdR.app _ (UpdR.here _ _ _ hszb)))))) (sc _ (sc _ (sc _ (sc _ (List.Sublist.append_left (sk _ (sc _ (List.Sublist.append_left (List.Sublist.append_left sn _) _))) _))))) ?_
 rw [nm_flM (wrS l (fun k => cX (z p k) (z (p + 1) k)) k) k (cX (z p k) (z (p + 1) k)) r (by rw [wrS_len]; exact hkl), wrS_set (f := (fun k => cX (z p k) (z (p + 1) k))) hkl]
 simp only [qz]
 refine rg_nil (ek_next ?_)
 refine wk_draws_m (hz1 := (sc _ (sc _ (sc _ (sc _ (List.Sublist.append_left (sc _ (sk _ (List.Sublist.append_left (List.Sublist.append_left sn _) _))) _)))))) [(0, 0), (1, 0), (2, 0), (3, 0), (4, 0), (5, 0), (6, 0), (7, 0), (8, 0), (9, 0), (14, 0), (10, 1), (11, 0), (12, 0), (13, 1), (15, 1), (16, 0), (17, 0), (18, 1), (19, 1), (20, 0), (21, 0), (22, 1), (23, 0), (24, 2)] 24 Kx Kx (fun c d v a w h => by cases d <;> exact h) ?_
 simp only [List.map_cons, List.map_nil, List.getD_cons_zero, List.getD_cons_succ]
 refine Zm ?_
 refine Zk ?_
 refine rf_field (n := 0) (j := 0) rfl rfl rfl Tryz.underlying49 rfl Kx rfl ?_
 simp only [qz]
 refine rf_load rfl rfl rfl Tryz.underlying47 rfl (fun w hw => (Kn.hd0 (Kn.tl (Kn.tl hw))).at rfl) ?_
 refine Zm ?_
 refine rf_add rfl rfl rfl rfl (wrap_ok Ox Ox) ?_
 simp only [qz]
 refine rf_indexS (n := p + 1) (sz := 1) (j := p + 1) rfl rfl rfl rfl Tryz.underlying47 Kx Ox Ox Ox ?_
 simp only [qz]
 refine rf_load (v := .slice (some ⟨b1, 0, none⟩) N c1) rfl rfl rfl Tryz.underlying22 rfl (fun w hw => Kn.outer (Kn.tl (Kn.tl (Kn.tl hw))) (at_twoP hA)) ?_
 refine Zm ?_
 refine rf_loadR (n := 5) rfl rfl rfl Tryz.underlying55 rfl Kx (fun w hw => Kn.hd0 (Kn.tl hw)) rfl rfl ?_
 simp only [qz]
 refine rf_loadR (n := 5) rfl rfl rfl Tryz.underlying55 rfl Kx (fun w hw => Kn.hd0 hw) rfl rfl ?_
 simp only [qz]
 apply rg_pure Rx Kx
 case hargs => exact Ax
 case h => exact fun w hw => amTurn2 (z p k) hok1 w
 case hz => exact (fun _ h => by cases h; exact (sc _ (sc _ (sc _ (sc _ (List.Sublist.append_left (sc _ (sc _ (List.Sublist.append_left (List.Sublist.append_left sn _) _))) _))))))
 simp only [qz]
 refine rf_extract rfl rfl rfl rfl ?_
 simp only [qz]
 refine rf_extract rfl rfl rfl rfl ?_
 simp only [qz]
 apply rg_pure Rx Kx
 case hargs => exact Ax
 case h => exact fun w hw => must_any (z p k).rot.rot 0 w
 case hz => exact (fun _ h => by cases h; exact (sc _ (sc _ (sc _ (sc _ (List.Sublist.append_left (sc _ (sc _ (List.Sublist.append_left (List.Sublist.append_left sn _) _))) _))))))
 simp only [qz]
 apply rg_pure Rx Kx
 case hargs => exact Ax
 case h => exact fun w hw => amAdd_mt (z p k).rot.rot (z (p + 1) k) (rot_ok (rot_ok hok1)) hok2 w
 case hz => exact (fun _ h => by cases h; exact (sc _ (sc _ (sc _ (sc _ (List.Sublist.append_left (sc _ (sc _ (List.Sublist.append_left (List.Sublist.append_left sn _) _))) _))))))
 simp only [qz]
 refine rf_extract rfl rfl rfl rfl ?_
 simp only [qz]
 refine rf_extract rfl rfl rfl rfl ?_
 simp only [qz]
 apply rg_pure Rx Kx
 case hargs => exact Ax
 case h => exact fun w hw => must_any (mtR ((z p k).rot.rot.add (z (p + 1) k))) (errI ((z p k).rot.rot.add (z (p + 1) k))) w
 case hz => exact (fun _ h => by cases h; exact (sc _ (sc _ (sc _ (sc _ (List.Sublist.append_left (sc _ (sc _ (List.Sublist.append_left (List.Sublist.append_left sn _) _))) _))))))
 simp only [qz]
 apply rg_pure Rx Kx
 case hargs => exact Ax
 case h => exact fun w hw => amHalve_mt (mtR ((z p k).rot.rot.add (z (p + 1) k))) hcy.1 w
 case hz => exact (fun _ h => by cases h; exact (sc _ (sc _ (sc _ (sc _ (List.Sublist.append_left (sc _ (sc _ (List.Sublist.append_left (List.Sublist.append_left sn _) _))) _))))))
 simp only [qz]
 refine rf_extract rfl rfl rfl rfl ?_
 simp only [qz]
 refine rf_extract rfl rfl rfl rfl ?_
 simp only [qz]
 apply rg_pure Rx Kx
 case hargs => exact Ax
 case h => exact fun w hw => must_any (cY (z p k) (z (p + 1) k)) (errI ((mtR ((z p k).rot.rot.add (z (p + 1) k))).halve 1)) w
 case hz => exact (fun _ h => by cases h; exact (sc _ (sc _ (sc _ (sc _ (List.Sublist.append_left (sc _ (sc _ (List.Sublist.append_left (List.Sublist.append_left sn _) _))) _))))))
 simp only [qz]
 refine rf_indexS (n := k) (sz := 5) (j := 0 + k * 5) rfl rfl rfl rfl Tryz.underlying22 Kx Ox Ox rfl ?_
 simp only [qz]
 have hszb1 := nm_szM (wrS l1 (fun k => cY (z p k) (z (p + 1) k)) k) k (cY (z p k) (z (p + 1) k)) r1 (by rw [wrS_len]; exact hkl1)
 refine rf_storeRM (n := 5) (vs := nmC (cY (z p k) (z (p + 1) k))) rfl rfl Kx rfl rfl (UpdR.there _ (UpdR.there _ (UpdR.there _ (UpdR.there _ (UpdR.app _ (UpdR.there _ (UpdR.here _ _ _ hszb1))))))) (sc _ (sc _ (sc _ (sc _ (List.Sublist.append_left (sc _ (sk _ (List.Sublist.append_left (List.Sublist.append_left sn _) _))) _))))) ?_
 rw [nm_flM (wrS l1 (fun k => cY (z p k) (z (p + 1) k)) k) k (cY (z p k) (z (p + 1) k)) r1 (by rw [wrS_len]; exact hkl1), wrS_set (f := (fun k => cY (z p k) (z (p + 1) k))) hkl1]
 simp only [qz]
 refine rg_nil (ek_block (ek_next ?_))
 refine wk_region [0, 0] rfl Kx ?_
 simp only [qy]
 refine rf_add rfl rfl rfl rfl (wrap_ok Ox Ox) ?_
 refine Zm ?_
 refine rg_nil ?_
 refine ek_sub (sk _ (sk _ (sc _ (sc _ (List.Sublist.append_left (sc _ (sc _ (List.Sublist.append_left (List.Sublist.append_left sn _) _))) _))))) ?_
 refine ek_roundF (N - (k + 1)) Ox Kx ?_
 exact ⟨k + 1, rfl, by rfl, by rfl, by omega⟩
section
variable {R : Option Nat} {ops : Array Oper} {Q : Exit → Act → World → Prop} {B : World} {F : List Nat} {s0 : Option (List Blk × List Blk)} {P : Program}
variable {l : List (Oper × Nat)} {a : Act} {s : List Blk} {d : Option Tmp} {t : TypeId} {p : String} {af : Array Edge} {gd : Option (Nat × Bool)} {m : Nat}
theorem rf_sliceFrom {T : Nat} {x yl : Operand} {b off lo len cap e sz : Nat} {k' : IntKind} {zl : Int} (hm : soft03 m = true) (hg : Region.wanted ⟨d, .slice T x (some yl) none none, t, p, af, gd⟩ (yielded ops a.tmps) = true)
    (hx : a.eval x = .slice (some ⟨b, off, none⟩) len cap) (hl : a.eval yl = .int k' zl) (hu : P.underlying T = some (.slice e)) (hs : (P.info? e).map (·.size) = some sz) (hzl : zl = (lo : Int)) (hn : lo ≤ len)
    (h : Rg R P ops Q B F s0 l (a.put d (.slice (if cap = lo then some ⟨b, off, none⟩ else some ⟨b, off + lo * sz, none⟩) (len - lo) (cap - lo))) s) : Rg R P ops Q B F s0 ((⟨d, .slice T x (some yl) none none, t, p, af, gd⟩, m) :: l) a s := by
  subst hzl
  refine rg_any hm hg (fun w => ?_) h
  unfold Yld
  cases hq : P.info? e with
  | none => simp [hq] at hs
  | some q =>
    have hs' : q.size = sz := by simpa [hq] using hs
    have hb2 := fun w => run_sliceBound (P := P) w k' (lo : Int) len .sliceB Ox Ox
    have e2 : (lo : Int).toNat = lo := Int.toNat_natCast _
    rw [e2] at hb2
    simp [execOp, hx, hl, Instr.sliceAt, Instr.slice, Instr.sliceBounds, run_underlying hu, sizeOf, typeInfo, hq, hs', hb2, Addr.add_mid]
end
def expZ (z : Zt) (col : Nat) : Nat → Int
  | 0 => 0
  | j + 1 => if expZ z col j < (z (col + j) col).k then (z (col + j) col).k else expZ z col j
theorem expZ_is {z : Zt} {col : Nat} : ∀ n, 0 ≤ expZ z col n ∧ (∀ i, col ≤ i → i < col + n → (z i col).k ≤ expZ z col n) ∧ (0 < expZ z col n → ∃ i, col ≤ i ∧ i < col + n ∧ (z i col).k = expZ z col n)
  | 0 => ⟨Int.le_refl _, fun i h1 h2 => absurd h2 Ox, fun h => absurd (show (0 : Int) < 0 from h) (by decide)⟩
  | n + 1 => by
    obtain ⟨h0, h1, h2⟩ := expZ_is (z := z) (col := col) n
    rw [expZ]
    split
    · rename_i hlt
      refine ⟨by omega, fun i hi hin => ?_, fun _ => ⟨col + n, by omega, by omega, rfl⟩⟩
      rcases (by omega : i = col + n ∨ i < col + n) with rfl | hlt'
      · exact Int.le_refl _
      · have := h1 i hi hlt'; omega
    · rename_i hge
      refine ⟨h0, fun i hi hin => ?_, fun hp => ?_⟩
      · rcases (by omega : i = col + n ∨ i < col + n) with rfl | hlt'
        · omega
        · exact h1 i hi hlt'
      · obtain ⟨i, a1, a2, a3⟩ := h2 hp
        exact ⟨i, a1, by omega, a3⟩
theorem expZ_exp {N col : Nat} {z : Zt} (hc : col ≤ N) : IsExp N col z (expZ z col (N - col)) := by
  have h := expZ_is (z := z) (col := col) (N - col)
  rw [show col + (N - col) = N by omega] at h
  exact h
def bsZ (b : Nat) (z : Zt) : Nat → Zt
  | 0 => z
  | j + 1 => crZ (b - 1 - j) (bsZ b z j)
def bsL (b : Nat) : Nat → List It
  | 0 => []
  | j + 1 => bsL b j ++ [cross (b - 1 - j)]
theorem bsL_len (b : Nat) : ∀ j, (bsL b j).length = j
  | 0 => rfl
  | j + 1 => by rw [bsL, List.length_append, bsL_len b j]; rfl
theorem wexpo_any (N col gw : Nat) (z : Zt) (L : List It) (s : List Blk) (hS : WS N gw z L s) (hN : N ≤ 6) (hL : L.length ≤ 100000) (hc : col < N) (w : World) (hK : Kn w (s.map (·.1)) s w) : Calls Tryz.prog 38 #[.pointer (some ⟨gw, 0, none⟩), .int .i64 (col : Int)] w fun e w' => e = .returned (.int .i64 (expZ z col (N - col))) ∧ Below w.heap.size w w' := by
 obtain ⟨go, oc, ro, rs, ia, ic, u, hse, hrl, hoc, hlen, hval, hO, hok⟩ := hS.open_
 go_enter Tryz.func38, Tryz.ntmps38
 refine wk_startF (Kn.to hse hK.nil') ?_
 refine wk_seq ?_
 refine wk_region [0] rfl Kx ?_
 refine Zm ?_
 refine rg_nil (ek_next (wk_seq ?_))
 refine wk_region [0] rfl Kx ?_
 refine Zm ?_
 refine rg_nil (ek_next (wk_seq (wk_seq ?_)))
 refine wk_region [0, 0, 0, 0, 0, 0, 0, 0] rfl Kx ?_
 refine Zm ?_
 refine Zk ?_
 refine rf_field (n := 0) (j := 0) rfl rfl rfl Tryz.underlying49 rfl Kx rfl ?_
 simp only [qz]
 refine rf_load rfl rfl rfl Tryz.underlying47 rfl (fun w hw => (Kn.hd0 hw).at rfl) ?_
 refine Zm ?_
 refine rf_sliceFrom (lo := col) (sz := 1) rfl rfl rfl rfl Tryz.underlying47 Kx Ox Ox ?_
 rw [if_neg (show ¬ oc = col by omega)]
 simp only [qz]
 refine rf_len rfl rfl rfl Tryz.underlying47 ?_
 refine Zm ?_
 refine rg_nil (ek_next (wk_block ?_))
 refine wk_loopF [5, 7, 15, 16, 17, 18, 19, 20, 21, 22, 23, 24, 25, 26] (fun mz f s => ∃ (j : Nat) (k : Int), f 5 = .int .i64 k ∧ f 15 = .int .i64 j ∧ s = ((gw, .cells #[.slice (some ⟨go, 0, none⟩) N oc, .slice ia L.length ic] 49) :: ((go, .cells (rwV N (rs) ++ ro).toArray 22) :: (rwB rs ++ (u ++ [])))) ∧ mz = (N - col) - j ∧ j ≤ N - col ∧ Hid (expZ z col j = k)) ((fun (j : Nat) (k : Int) => (N - col) - j) (0) (0)) ?_ Kx ?_
 ·exact ⟨0, 0, rfl, rfl, rfl, rfl, by omega, Lib.hid rfl⟩
 rintro mz f1 s ⟨j, k, hs1_5, hs1_15, rfl, hn, hd1, hd2⟩
 simp only [Act.putF, List.foldl_cons, List.foldl_nil, hs1_5, hs1_15, Act.put, Act.eval, q1, q2, q3, q4, q5, q6, q7, q8, q9, q10, q11, q12, q13, q14, q15, q16, q17, q18, Nat.reduceAdd, Bool.not_true, Bool.not_false]
 clear hs1_5 hs1_15
 have hk := hd2
 clear hd2
 refine wk_seq ?_
 refine wk_region [0] rfl Kx ?_
 simp only [qy]
 refine rfb_lss rfl rfl rfl rfl ?_
 intro x h1
 cases x
 ·(try simp only [qd, ne_eq] at h1)
  simp only [qz]; refine rg_nil (ek_next (wk_seq (wk_cond_f rfl (wk_exit (ek_then_exit (ek_then_exit (ek_block_exit (ek_next (wk_seq ?_))))))))); refine wk_region [0, 0] rfl Kx ?_; refine Zm ?_; refine rg_nil (ek_next (wk_ret ?_)); refine ek_ret (fun w hw => ⟨rfl, _, res_t _ rfl, ?_⟩); (try simp only [qz])
  obtain rfl : j = N - col := by omega
  exact ⟨by rw [hk.out], hK.same (Kn.of_nil (hw.to hse.symm))⟩
 (try simp only [qd, ne_eq] at h1)
 simp only [qz]
 refine rg_nil (ek_next (wk_seq (wk_cond_t rfl (wk_skip (ek_next (wk_seq (wk_block (wk_seq ?_))))))))
 have hcj : col + j < rs.length := by omega
 obtain ⟨⟨b, c, l, r⟩, hx⟩ : ∃ x, rs[col + j]? = some x := ⟨rs[col + j], List.getElem?_eq_getElem hcj⟩
 have hll : l.length = N := hlen ⟨b, c, l, r⟩ (List.mem_of_getElem? hx)
 have hzk : nm l col = z (col + j) col := hval _ _ hx col hc
 refine wk_region [0, 0, 0] rfl Kx ?_
 simp only [qy]
 refine rf_indexS (n := j) (sz := 1) (j := col + j) rfl rfl rfl rfl Tryz.underlying47 Kx Ox Ox Ox ?_
 simp only [qz]
 refine rf_load (v := .slice (some ⟨b, 0, none⟩) N c) rfl rfl rfl Tryz.underlying22 rfl (fun w hw => Kn.outer (Kn.tl hw) (hx)) ?_
 refine Zm ?_
 refine rg_nil (ek_next ?_)
 refine wk_region [0, 0, 0, 0, 0, 0, 0, 0] rfl Kx ?_
 refine Zm ?_
 refine rf_indexS (n := col) (sz := 5) (j := 0 + col * 5) rfl rfl rfl rfl Tryz.underlying22 Kx Ox Ox rfl ?_
 simp only [qz]
 refine rf_field (n := 0) (j := 0 + col * 5 + 4) rfl rfl rfl Tryz.underlying55 rfl Kx rfl ?_
 simp only [qz]
 refine rf_load (v := .int .i64 (z (col + j) col).k) rfl rfl rfl Tryz.underlying3 rfl (fun w hw => by have := Kn.row (Kn.tl (Kn.tl hw)) hx (k := col) (by rw [hll]; exact hc); rw [hzk] at this; exact this.c4) ?_
 simp only [qz]
 refine Zk ?_
 refine rg_nil (ek_block (ek_next ?_))
 refine wk_region [0, 0] rfl Kx ?_
 simp only [qy]
 refine rf_add rfl rfl rfl rfl (wrap_ok Ox Ox) ?_
 refine Zm ?_
 refine rg_nil ?_
 refine ek_roundF ((N - col) - (j + 1)) Ox Kx ?_
 exact ⟨j + 1, _, rfl, rfl, by rfl, by rfl, by omega, (Lib.hid (by rw [expZ, hk.out]))⟩
theorem wbeside_any (N b t gw : Nat) (z : Zt) (L : List It) (s : List Blk) (hS : WS N gw z L s) (hN : N ≤ 6) (hL : L.length + 10 ≤ 100000) (ht : t ≤ b) (hb : b < N) (w : World) (hK : Kn w (s.map (·.1)) s w) : Calls Tryz.prog 40 #[.pointer (some ⟨gw, 0, none⟩), .int .i64 (b : Int), .int .i64 (t : Int)] w fun e w' => e = .returned (.tuple #[]) ∧ ∃ s', Kn w (s.map (·.1)) s' w' ∧ WS N gw (bsZ b z (b - t)) (L ++ bsL b (b - t)) s' := by
 go_enter Tryz.func40, Tryz.ntmps40
 refine wk_startF hK.nil' ?_
 refine wk_block ?_
 refine wk_loopF [1, 6, 7, 8, 9, 10, 11, 12, 13, 14] (fun mz f s => ∃ (j : Nat) (uV : List Blk), f 1 = .int .i64 ((b : Int) - j) ∧ s = (uV ++ []) ∧ mz = (b - t) - j ∧ j ≤ b - t ∧ WS N gw (bsZ b z j) (L ++ bsL b j) uV) ((fun (j : Nat) (uV : List Blk) => (b - t) - j) (0) (s)) ?_ Kx ?_
 ·exact ⟨0, s, rfl, rfl, rfl, by omega, (by rw [show L ++ bsL b 0 = L from List.append_nil L]; exact hS)⟩
 rintro mz f1 s ⟨j, uV, hs1_1, rfl, hn, hd1, hd2⟩
 simp only [Act.putF, List.foldl_cons, List.foldl_nil, hs1_1, Act.put, Act.eval, q1, q2, q3, q4, q5, q6, q7, q8, q9, q10, q11, q12, q13, q14, q15, q16, q17, q18, Nat.reduceAdd, Bool.not_true, Bool.not_false]
 clear hs1_1
 refine wk_seq (wk_seq ?_)
 refine wk_region [0, 0, 0] rfl Kx ?_
 refine Zm ?_
 refine rfb_gtr rfl rfl rfl rfl ?_
 intro x h1
 cases x
 ·(try simp only [qd, ne_eq] at h1)
  simp only [qz]; refine rg_nil (ek_next (wk_cond_f rfl (wk_exit (ek_then_exit (ek_then_exit (ek_block_exit ?_)))))); refine ek_norm (fun w hw => ⟨rfl, _, res_0 rfl, ?_⟩); (try simp only [qz])
  obtain rfl : j = b - t := by omega
  exact ⟨(by first | rfl | trivial), _, hw.of_nil, hd2⟩
 (try simp only [qd, ne_eq] at h1)
 simp only [qz]
 refine rg_nil (ek_next (wk_cond_t rfl (wk_skip (ek_next (wk_seq (wk_block ?_))))))
 refine wk_region [0, 0, 0, 1] rfl Kx ?_
 refine Zm ?_
 refine rf_sub (r := ((b - 1 - j : Nat) : Int)) rfl rfl rfl rfl (wrap_eqB Ox Ox Ox) ?_
 simp only [qz]
 refine rg_eff (T := fun uX => WS N gw (crZ (b - 1 - j) (bsZ b z j)) (L ++ bsL b j ++ [cross (b - 1 - j)]) uX) (vb := uV) (rest := []) Rx Kx (by simp only [qm, qs, Act.eval]; try rfl) (List.Perm.refl _) (fun w hw => wcross_any N (b - 1 - j) gw (bsZ b z j) (L ++ bsL b j) uV hd2 hN (by rw [List.length_append, bsL_len]; omega) Ox w hw) (fun uX hTuX => ?_)
 simp only [qz]
 refine rg_nil (ek_block (ek_next ?_))
 refine wk_region [0, 0, 0] rfl Kx ?_
 refine Zm ?_
 refine rf_sub (r := (b : Int) - ((j + 1 : Nat) : Int)) rfl rfl rfl rfl (wrap_eqB Ox Ox Ox) ?_
 refine Zm ?_
 refine rg_nil ?_
 refine ek_roundF ((b - t) - (j + 1)) Ox Kx ?_
 exact ⟨j + 1, uX, rfl, by rfl, by rfl, by omega, (by rw [bsZ, bsL, ← List.append_assoc]; exact hTuX)⟩
def RetNm (w : World) (xs : List Nm) (e : Ending) (w' : World) : Prop := ∃ v u, e = .returned v ∧ OwnN u v xs ∧ Made w u w'
theorem OwnN.emptyK {g : Nat} : OwnN [(g, .cells #[] 55)] (.slice (some ⟨g, 0, none⟩) 0 0) [] := ⟨rfl, .inr ⟨g, 0, #[], rfl, rfl, Nat.le_refl _, by simp only [maxLen]; omega, rfl, rfl⟩⟩
theorem clonek_any (N b off c : Nat) (xs : List Nm) (hl : Hid (xs.length = N)) (hN : N ≤ 1000) (w : World) (hA : AS w (some ⟨b, off, none⟩) (nms xs)) : Calls Tryz.prog 20 #[.slice (some ⟨b, off, none⟩) N c] w fun e w' => RetNm w xs e w' := by
 go_enter Tryz.func20, Tryz.ntmps20
 refine wk_start ?_
 refine wk_seq ?_
 refine wk_region [0] rfl Kx ?_
 refine Zm ?_
 refine rg_nil (ek_next (wk_seq (wk_seq ?_)))
 refine wk_region [0, 0] rfl Kx ?_
 refine Zm ?_
 apply rg_softb
 case hy => (intro w hw; go_simp; (try go_bits); exact Yld.mk _ _)
 intro x h1
 obtain rfl : x = false := by (refine h1.symm.trans ?_; first | rfl | exact decide_eq_false Ox | exact beq_eq_false_iff_ne.2 Ox | exact bne_eq_false_iff_eq.2 Ox | (simp; omega) | (simp; done))
 clear h1
 simp only [qz]
 refine rg_nil (ek_next (wk_cond_f rfl (wk_skip (ek_next (wk_seq ?_)))))
 refine wk_region [1, 0, 1, 0] rfl Kx ?_
 simp only [qy]
 refine rg_newS (cs := ?_) (ty := ?_) (n := 0) (c := 0) Rx (fun w => ?_) Nz (fun g1 => ?_); rotate_left 2
 focus (go_simp; rfl)
 refine Zm ?_
 refine rg_appNums (u := [(g1, .cells #[] 55)]) (s := []) (xs := []) (ys := xs) (r := N) Rx rfl OwnN.emptyK rfl hl.out (by simp only [List.length_nil, hl.out]; omega) Ox (List.Perm.refl _) (fun w hw => hA.kn0 hw) Nz (fun u1 a1 c1 hO1 => ?_)
 refine Zm ?_
 refine rg_nil (ek_next (wk_ret ?_))
 refine ek_ret (fun w hw => ⟨rfl, _, res_t _ rfl, ?_⟩)
 (try simp only [qz])
 exact ⟨_, _, rfl, hO1, hw.made (by simp)⟩
theorem chunk_any (N bz nn cz : Nat) (hN : 1 ≤ N) (w : World) : Calls Tryz.prog 19 #[.slice (some ⟨bz, 0, none⟩) nn cz, .int .i64 N] w fun e w' => ∃ gs gn, e = .returned (.func (.func 37) #[] #[.pointer (some ⟨gs, 0, none⟩), .pointer (some ⟨gn, 0, none⟩)]) ∧ Made w [(gn, .cells #[.int .i64 N] 3), (gs, .cells #[.slice (some ⟨bz, 0, none⟩) nn cz] 22)] w' := by
 go_enter Tryz.func19, Tryz.ntmps19
 refine wk_start ?_
 refine wk_seq ?_
 refine wk_region [1, 1, 0] rfl Kx ?_
 simp only [qy]
 refine Rgn fun g1 => ?_
 simp only [qz]
 refine Rgn fun g2 => ?_
 refine Zm ?_
 refine rg_nil (ek_next (wk_seq (wk_seq ?_)))
 refine wk_region [0, 0] rfl Kx ?_
 simp only [qy]
 refine rf_load rfl rfl rfl Tryz.underlying3 rfl (fun w hw => (Kn.hd0 hw).at rfl) ?_
 simp only [qz]
 refine rfb_lss rfl rfl rfl rfl ?_
 intro x h1
 cases x
 ·(try simp only [qd, ne_eq] at h1)
  simp only [qz]; refine rg_nil (ek_next (wk_cond_f rfl (wk_skip (ek_next (wk_seq ?_))))); refine wk_region [0, 0] rfl Kx ?_; simp only [qy]; refine Zk ?_; refine rg_nil (ek_next (wk_ret ?_)); refine ek_ret (fun w hw => ⟨rfl, _, res_t _ rfl, ?_⟩); (try simp only [qz])
  exact ⟨g1, g2, (by first | rfl | trivial), hw.made (List.Sublist.refl _)⟩
 (try simp only [qd, ne_eq] at h1)
 simp only [qz]
 exfalso; omega
theorem chunk1_any (N nn bz cz lp gs gn : Nat) (hN : 1 ≤ N) (hN6 : N ≤ 6) (hnn : Hid (nn = N * N)) (hn36 : nn ≤ 36) (hcz : nn ≤ cz) (r : Loop) (C : Nat → List Blk → Prop) (hR : RoundsK N bz lp r C) (s : List Blk) (F : List Nat) (hC0 : C 0 s) (w : World) (hK : Kn w F (s ++ [(gs, .cells #[.slice (some ⟨bz, 0, none⟩) nn cz] 22), (gn, .cells #[.int .i64 N] 3)]) w) : Calls Tryz.prog 37 #[.func (.yield lp) #[] #[], .pointer (some ⟨gs, 0, none⟩), .pointer (some ⟨gn, 0, none⟩)] w fun e w' => e = .returned (.tuple #[]) ∧ ∃ s', C N s' ∧ Kn w F (s' ++ [(gs, .cells #[.slice (some ⟨bz, 0, none⟩) nn cz] 22), (gn, .cells #[.int .i64 N] 3)]) w' := by
 go_enter Tryz.func37, Tryz.ntmps37
 refine wk_startF hK ?_
 refine wk_seq ?_
 refine wk_region [0] rfl Kx ?_
 refine Zm ?_
 refine rg_nil (ek_next (wk_block ?_))
 refine wk_loopF [4, 5, 6, 7, 8, 9, 10, 11, 12, 13, 14, 15, 16, 17, 18, 19, 20, 21, 22, 23, 24, 25, 26, 27, 28, 29, 30] (fun mz f s => ∃ (j i : Nat) (uC : List Blk), f 4 = .int .i64 i ∧ s = (uC ++ ((gs, .cells #[.slice (some ⟨bz, 0, none⟩) nn cz] 22) :: ((gn, .cells #[.int .i64 N] 3) :: []))) ∧ mz = N - j ∧ j ≤ N ∧ Hid (i = j * N) ∧ C j uC) ((fun (j i : Nat) (uC : List Blk) => N - j) (0) (0) (s)) ?_ Kx ?_
 ·exact ⟨0, 0, s, rfl, rfl, rfl, by omega, Lib.hid (Nat.zero_mul N).symm, hC0⟩
 rintro mz f1 s ⟨j, i, uC, hs1_4, rfl, hn, hd1, hd2, hd3⟩
 simp only [Act.putF, List.foldl_cons, List.foldl_nil, hs1_4, Act.put, Act.eval, q1, q2, q3, q4, q5, q6, q7, q8, q9, q10, q11, q12, q13, q14, q15, q16, q17, q18, Nat.reduceAdd, Bool.not_true, Bool.not_false]
 clear hs1_4
 have hi := hd2
 have hC := hd3
 clear hd2 hd3
 refine wk_seq (wk_seq ?_)
 refine wk_region [0, 0, 0, 0] rfl Kx ?_
 refine Zm ?_
 refine rf_load rfl rfl rfl Tryz.underlying22 rfl (fun w hw => (Kn.hd0 (Kn.tlU hw)).at rfl) ?_
 simp only [qz]
 refine rf_len rfl rfl rfl Tryz.underlying22 ?_
 simp only [qz]
 refine rfb_lss rfl rfl rfl rfl ?_
 intro x h1
 cases x
 ·(try simp only [qd, ne_eq] at h1)
  simp only [qz]
  have hjN : N ≤ j := Decidable.byContradiction fun hn => by
   have := Nat.mul_le_mul_right N (show j + 1 ≤ N by omega)
   rw [Nat.add_mul, Nat.one_mul, ← hi.out, ← hnn.out] at this
   omega
  refine rg_nil (ek_next (wk_cond_f rfl (wk_exit (ek_then_exit (ek_then_exit (ek_block_exit ?_)))))); refine ek_norm (fun w hw => ⟨rfl, _, res_0 rfl, ?_⟩); (try simp only [qz])
  obtain rfl : j = N := by omega
  exact ⟨(by first | rfl | trivial), _, hC, hw⟩
 (try simp only [qd, ne_eq] at h1)
 simp only [qz]
 have hjN : j < N := Nat.lt_of_mul_lt_mul_right (a := N) (by rw [← hi.out, ← hnn.out]; omega)
 have hin : i + N ≤ nn := by
  have := Nat.mul_le_mul_right N (show j + 1 ≤ N by omega)
  rw [Nat.add_mul, Nat.one_mul, ← hi.out, ← hnn.out] at this
  exact this
 have hin1 : i + N = (j + 1) * N := by rw [Nat.add_mul, Nat.one_mul, ← hi.out]
 replace hin1 := Lib.hid hin1
 refine rg_nil (ek_next (wk_cond_t rfl (wk_skip (ek_next (wk_seq (wk_block (wk_seq ?_)))))))
 refine wk_draws _ _ [(0, 0), (1, 0), (2, 0), (3, 0), (4, 0), (5, 0), (6, 0)] [] Kx Kx (fun c d v a w h => by cases d <;> exact h) ((List.Sublist.append_left (sc _ (sc _ sn)) _)) (fun e => by first | exact absurd e (by decide) | rfl) ?_
 simp only [List.map_cons, List.map_nil, List.getD_cons_zero, List.getD_cons_succ]
 refine rf_load rfl rfl rfl Tryz.underlying3 rfl (fun w hw => (Kn.hd0 (Kn.tl (Kn.tlU hw))).at rfl) ?_
 simp only [qz]
 refine rf_load rfl rfl rfl Tryz.underlying22 rfl (fun w hw => (Kn.hd0 (Kn.tlU hw)).at rfl) ?_
 refine Zm ?_
 refine rf_sliceFrom (lo := i) (sz := 5) rfl rfl rfl rfl Tryz.underlying22 Kx Ox Ox ?_
 simp only [qz]
 refine rf_len rfl rfl rfl Tryz.underlying22 ?_
 simp only [qz]
 apply rg_soft
 case hy => (intro w hw; go_simp; (try go_bits); exact Yld.mk _ _)
 refine Zm ?_
 refine rg_nil (ek_next (wk_seq ?_))
 refine wk_region [0, 0, 0, 0, 0, 0, 0, 0, 0, 0, 1, 0] rfl Kx ?_
 refine Zm ?_
 refine rf_load rfl rfl rfl Tryz.underlying22 rfl (fun w hw => (Kn.hd0 (Kn.tlU hw)).at rfl) ?_
 refine Zm ?_
 refine rf_add rfl rfl rfl rfl (wrap_ok Ox Ox) ?_
 refine Zm ?_
 refine rf_add rfl rfl rfl rfl (wrap_ok Ox Ox) ?_
 simp only [qz]
 refine rf_slice3 (lo := i) (hi := i + N) (n := N) (sz := 5) rfl rfl rfl rfl rfl rfl Tryz.underlying22 Kx Ox Ox Ox rfl Ox Ox ?_
 simp only [qz]
 refine rg_yieldK (j := j) (i := i) hR hC hjN hi.out Rx rfl (by simp only [qm, qs, Act.eval]; try rfl) (fun uD hCD => ?_)
 simp only [qz]
 refine rf_not rfl rfl rfl ?_
 simp only [qz]
 refine rg_nil (ek_next (wk_cond_f rfl (wk_skip (ek_block (ek_next ?_)))))
 refine wk_region [0, 0, 0, 0] rfl Kx ?_
 refine Zm ?_
 refine rf_load rfl rfl rfl Tryz.underlying3 rfl (fun w hw => (Kn.hd0 (Kn.tl (Kn.tlU hw))).at rfl) ?_
 simp only [qz]
 refine rf_add rfl rfl rfl rfl (wrap_ok Ox Ox) ?_
 refine Zm ?_
 refine rg_nil ?_
 refine ek_roundF (N - (j + 1)) Ox Kx ?_
 exact ⟨j + 1, i + N, uD, rfl, by rfl, by rfl, by omega, hin1, hCD⟩
def mostN (N : Nat) : Int := [0, 40, 40, 12, 4].getD N 0
theorem most_at : ∀ N : Nat, N ≤ 4 → (#[Value.int .i64 0, .int .i64 40, .int .i64 40, .int .i64 12, .int .i64 4] : Array Value)[N]? = some (.int .i64 (mostN N)) := by
 intro N h
 rcases (by omega : N = 0 ∨ N = 1 ∨ N = 2 ∨ N = 3 ∨ N = 4) with rfl | rfl | rfl | rfl | rfl <;> rfl
theorem most_any (N : Nat) (hN : N ≤ 4) (w : World) : Calls Tryz.prog 16 #[.int .i64 (N : Int)] w fun e w' => e = .returned (.int .i64 (mostN N)) ∧ Below w.heap.size w w' := by
 go_enter Tryz.func16, Tryz.ntmps16
 refine wk_start ?_
 refine wk_seq ?_
 refine wk_region [0] rfl Kx ?_
 refine Zm ?_
 refine rg_nil (ek_next (wk_seq ?_))
 refine wk_region [1, 0, 0, 0, 0] rfl Kx ?_
 simp only [qy]
 refine rg_newS (cs := ?_) (ty := ?_) (n := 5) (c := 5) Rx (fun w => ?_) Nz (fun g1 => ?_); rotate_left 2
 focus (go_simp; rfl)
 refine Zm ?_
 refine rf_indexS (n := N) (sz := 1) (j := N) rfl rfl rfl rfl Tryz.underlying40 Kx Ox Ox Ox ?_
 simp only [qz]
 refine rf_load (v := .int .i64 (mostN N)) rfl rfl rfl Tryz.underlying3 rfl (fun w hw => ((Kn.hd0 hw).cell N).trans (most_at N hN)) ?_
 refine Zm ?_
 refine rg_nil (ek_next (wk_ret ?_))
 refine ek_ret (fun w hw => ⟨rfl, _, res_t _ rfl, ?_⟩)
 (try simp only [qz])
 first | exact ⟨rfl, hw.below⟩ | exact ⟨trivial, hw.below⟩ | exact hw.below
end Go.Proofs.YtccbinnlnkpplaaGreat
namespace Go.Proofs.YtccbinnlnkpplaaGreat
set_option linter.all false
set_option maxRecDepth 100000
set_option maxHeartbeats 1000000
structure W6 where
  w0 : Int
  w1 : Int
  w2 : Int
  w3 : Int
  w4 : Int
  w5 : Int
deriving DecidableEq, Inhabited
def W6.val (x : W6) : Int := x.w0 + 18446744073709551616 * (x.w1 + 18446744073709551616 * (x.w2 + 18446744073709551616 * (x.w3 + 18446744073709551616 * (x.w4 + 18446744073709551616 * x.w5))))
structure W6.Wf (x : W6) : Prop where
  a0 : 0 ≤ x.w0
  b0 : x.w0 < 18446744073709551616
  a1 : 0 ≤ x.w1
  b1 : x.w1 < 18446744073709551616
  a2 : 0 ≤ x.w2
  b2 : x.w2 < 18446744073709551616
  a3 : 0 ≤ x.w3
  b3 : x.w3 < 18446744073709551616
  a4 : 0 ≤ x.w4
  b4 : x.w4 < 18446744073709551616
  a5 : 0 ≤ x.w5
  b5 : x.w5 < 18446744073709551616
def W6.of (n : Int) : W6 := ⟨n % 18446744073709551616, n / 18446744073709551616 % 18446744073709551616, n / 18446744073709551616 / 18446744073709551616 % 18446744073709551616, n / 18446744073709551616 / 18446744073709551616 / 18446744073709551616 % 18446744073709551616, n / 18446744073709551616 / 18446744073709551616 / 18446744073709551616 / 18446744073709551616 % 18446744073709551616, n / 18446744073709551616 / 18446744073709551616 / 18446744073709551616 / 18446744073709551616 / 18446744073709551616 % 18446744073709551616⟩
theorem W6.of_wf (n : Int) : (W6.of n).Wf := ⟨by simp only [W6.of]; omega, by simp only [W6.of]; omega, by simp only [W6.of]; omega, by simp only [W6.of]; omega, by simp only [W6.of]; omega, by simp only [W6.of]; omega, by simp only [W6.of]; omega, by simp only [W6.of]; omega, by simp only [W6.of]; omega, by simp only [W6.of]; omega, by simp only [W6.of]; omega, by simp only [W6.of]; omega⟩
theorem W6.of_val (n : Int) : (W6.of n).val = n - 39402006196394479212279040100143613805079739270465446667948293404245721771497210611414266254884915640806627990306816 * (n / 18446744073709551616 / 18446744073709551616 / 18446744073709551616 / 18446744073709551616 / 18446744073709551616 / 18446744073709551616) := by simp only [W6.val, W6.of]; omega
theorem W6.ext' {x y : W6} (hx : x.Wf) (hy : y.Wf) (h : x.val = y.val) : x = y := by
  obtain ⟨a0, a1, a2, a3, a4, a5⟩ := x
  obtain ⟨b0, b1, b2, b3, b4, b5⟩ := y
  obtain ⟨h1, h2, h3, h4, h5, h6, h7, h8, h9, h10, h11, h12⟩ := hx
  obtain ⟨k1, k2, k3, k4, k5, k6, k7, k8, k9, k10, k11, k12⟩ := hy
  simp only [W6.val] at *
  congr 1 <;> omega
theorem W6.val_range {x : W6} (hx : x.Wf) : 0 ≤ x.val ∧ x.val < 39402006196394479212279040100143613805079739270465446667948293404245721771497210611414266254884915640806627990306816 := by
  obtain ⟨h1, h2, h3, h4, h5, h6, h7, h8, h9, h10, h11, h12⟩ := hx
  simp only [W6.val]
  omega
theorem W6.of_eq {x : W6} {n : Int} (hx : x.Wf) (q : Int) (h : x.val = n + 39402006196394479212279040100143613805079739270465446667948293404245721771497210611414266254884915640806627990306816 * q) : x = W6.of n := by
  refine W6.ext' hx (W6.of_wf n) ?_
  have h1 := W6.val_range hx
  have h2 := W6.val_range (W6.of_wf n)
  rw [W6.of_val] at h2 ⊢
  omega
def In384 (n : Int) : Prop := -19701003098197239606139520050071806902539869635232723333974146702122860885748605305707133127442457820403313995153408 ≤ n ∧ n < 19701003098197239606139520050071806902539869635232723333974146702122860885748605305707133127442457820403313995153408
theorem W6.of_inj {m n : Int} (hm : In384 m) (hn : In384 n) (h : W6.of m = W6.of n) : m = n := by
  have h1 := W6.of_val m
  have h2 := W6.of_val n
  rw [h] at h1
  unfold In384 at hm hn
  omega
theorem W6.of_whole {n : Int} (h0 : -9223372036854775808 ≤ n) (h1 : n < 9223372036854775808) : W6.of n = ⟨n % 18446744073709551616, (if n < 0 then 18446744073709551615 else 0), (if n < 0 then 18446744073709551615 else 0), (if n < 0 then 18446744073709551615 else 0), (if n < 0 then 18446744073709551615 else 0), (if n < 0 then 18446744073709551615 else 0)⟩ := by
  simp only [W6.of]
  split <;> congr 1 <;> omega
theorem W6.add_eq {m n : Int} {s0 s1 s2 s3 s4 s5 c0 c1 c2 c3 c4 c5 : Int} (hw : (⟨s0, s1, s2, s3, s4, s5⟩ : W6).Wf)
    (h0 : s0 + 18446744073709551616 * c0 = (W6.of m).w0 + (W6.of n).w0) (h1 : s1 + 18446744073709551616 * c1 = (W6.of m).w1 + (W6.of n).w1 + c0) (h2 : s2 + 18446744073709551616 * c2 = (W6.of m).w2 + (W6.of n).w2 + c1)
    (h3 : s3 + 18446744073709551616 * c3 = (W6.of m).w3 + (W6.of n).w3 + c2) (h4 : s4 + 18446744073709551616 * c4 = (W6.of m).w4 + (W6.of n).w4 + c3) (h5 : s5 + 18446744073709551616 * c5 = (W6.of m).w5 + (W6.of n).w5 + c4) :
    (⟨s0, s1, s2, s3, s4, s5⟩ : W6) = W6.of (m + n) := by
  have e1 := W6.of_val m
  have e2 := W6.of_val n
  refine W6.of_eq hw (-(m / 18446744073709551616 / 18446744073709551616 / 18446744073709551616 / 18446744073709551616 / 18446744073709551616 / 18446744073709551616) - (n / 18446744073709551616 / 18446744073709551616 / 18446744073709551616 / 18446744073709551616 / 18446744073709551616 / 18446744073709551616) - c5) ?_
  generalize (m / 18446744073709551616 / 18446744073709551616 / 18446744073709551616 / 18446744073709551616 / 18446744073709551616 / 18446744073709551616) = p at *
  generalize (n / 18446744073709551616 / 18446744073709551616 / 18446744073709551616 / 18446744073709551616 / 18446744073709551616 / 18446744073709551616) = q at *
  generalize W6.of m = x at *
  generalize W6.of n = y at *
  simp only [W6.val] at *
  omega
theorem W6.neg_eq {m : Int} {s0 s1 s2 s3 s4 s5 c0 c1 c2 c3 c4 c5 : Int} (hw : (⟨s0, s1, s2, s3, s4, s5⟩ : W6).Wf)
    (h0 : s0 = 18446744073709551616 * c0 - (W6.of m).w0) (h1 : s1 = 18446744073709551616 * c1 - (W6.of m).w1 - c0) (h2 : s2 = 18446744073709551616 * c2 - (W6.of m).w2 - c1)
    (h3 : s3 = 18446744073709551616 * c3 - (W6.of m).w3 - c2) (h4 : s4 = 18446744073709551616 * c4 - (W6.of m).w4 - c3) (h5 : s5 = 18446744073709551616 * c5 - (W6.of m).w5 - c4) :
    (⟨s0, s1, s2, s3, s4, s5⟩ : W6) = W6.of (-m) := by
  have e1 := W6.of_val m
  refine W6.of_eq hw ((m / 18446744073709551616 / 18446744073709551616 / 18446744073709551616 / 18446744073709551616 / 18446744073709551616 / 18446744073709551616) + c5) ?_
  generalize (m / 18446744073709551616 / 18446744073709551616 / 18446744073709551616 / 18446744073709551616 / 18446744073709551616 / 18446744073709551616) = p at *
  generalize W6.of m = x at *
  simp only [W6.val] at *
  omega
theorem W6.times_eq {m n : Int} {s0 s1 s2 s3 s4 s5 c0 c1 c2 c3 c4 c5 : Int} (hw : (⟨s0, s1, s2, s3, s4, s5⟩ : W6).Wf)
    (h0 : s0 + 18446744073709551616 * c0 = (W6.of m).w0 * n) (h1 : s1 + 18446744073709551616 * c1 = (W6.of m).w1 * n + c0) (h2 : s2 + 18446744073709551616 * c2 = (W6.of m).w2 * n + c1)
    (h3 : s3 + 18446744073709551616 * c3 = (W6.of m).w3 * n + c2) (h4 : s4 + 18446744073709551616 * c4 = (W6.of m).w4 * n + c3) (h5 : s5 + 18446744073709551616 * c5 = (W6.of m).w5 * n + c4) :
    (⟨s0, s1, s2, s3, s4, s5⟩ : W6) = W6.of (m * n) := by
  have e1 := W6.of_val m
  refine W6.of_eq hw (-(m / 18446744073709551616 / 18446744073709551616 / 18446744073709551616 / 18446744073709551616 / 18446744073709551616 / 18446744073709551616) * n - c5) ?_
  generalize (m / 18446744073709551616 / 18446744073709551616 / 18446744073709551616 / 18446744073709551616 / 18446744073709551616 / 18446744073709551616) = p at *
  generalize W6.of m = x at *
  simp only [W6.val] at *
  grind
end Go.Proofs.YtccbinnlnkpplaaGreat
namespace Go.Proofs.YtccbinnlnkpplaaGreat
set_option linter.all false
set_option maxRecDepth 100000
set_option maxHeartbeats 1000000
open Go.RowKit
theorem run_Add64 (x y c s r : Int) (hx : 0 ≤ x) (hy : 0 ≤ y) (hc0 : 0 ≤ c) (hc : c ≤ 1) (hs : (x + y + c) % 18446744073709551616 = s) (hr : (x + y + c) / 18446744073709551616 = r) (w : World) :
    (callFunc 108 #[.int .u64 x, .int .u64 y, .int .u64 c]).run Tryz.prog w = .ok (.value (.tuple #[.int .u64 s, .int .u64 r])) w := by
  rw [run_callFunc_extern Tryz.func108 Kx Kx Kx (e := add64Entry) Kx, run_add64 x y c hx hy hc0 hc, hs, hr]
  rfl
theorem run_Sub64 (x y b s r : Nat) (hb : b ≤ 1) (hs : (x + 18446744073709551616 - y - b) % 18446744073709551616 = s) (hr : (if x < y + b then 1 else 0) = r) (w : World) :
    (callFunc 116 #[.int .u64 x, .int .u64 y, .int .u64 b]).run Tryz.prog w = .ok (.value (.tuple #[.int .u64 s, .int .u64 r])) w := by
  rw [run_callFunc_extern Tryz.func116 Kx Kx Kx (e := sub64Entry) Kx, run_sub64 x y b hb, hs, hr]
  rfl
theorem run_Sub64I (x y b s r : Int) (x0 : 0 ≤ x) (y0 : 0 ≤ y) (y1 : y < 18446744073709551616) (b0 : 0 ≤ b) (hb : b ≤ 1) (hs : (x + 18446744073709551616 - y - b) % 18446744073709551616 = s) (hr : (if x < y + b then 1 else 0) = r) (w : World) :
    (callFunc 116 #[.int .u64 x, .int .u64 y, .int .u64 b]).run Tryz.prog w = .ok (.value (.tuple #[.int .u64 s, .int .u64 r])) w := by
  obtain ⟨x, rfl⟩ := Int.eq_ofNat_of_zero_le x0
  obtain ⟨y, rfl⟩ := Int.eq_ofNat_of_zero_le y0
  obtain ⟨b, rfl⟩ := Int.eq_ofNat_of_zero_le b0
  have h := run_Sub64 x y b _ _ Ox rfl rfl w
  have e1 : (((x + 18446744073709551616 - y - b) % 18446744073709551616 : Nat) : Int) = s := by rw [← hs]; omega
  have e2 : (((if x < y + b then 1 else 0 : Nat)) : Int) = r := by rw [← hr]; split <;> split <;> omega
  rw [e1, e2] at h
  exact h
end Go.Proofs.YtccbinnlnkpplaaGreat
namespace Go.Proofs.YtccbinnlnkpplaaGreat
set_option linter.all false
set_option maxRecDepth 100000
set_option maxHeartbeats 1000000
def sel4 {α : Type} (a b c d : α) : Nat → α
  | 0 => a
  | 1 => b
  | 2 => c
  | _ => d
def upd {α : Type} (T : Nat → α) (j : Nat) (t : α) : Nat → α := fun m => if m = j then t else T m
theorem upd_same {α : Type} (T : Nat → α) (j : Nat) (t : α) : upd T j t j = t := if_pos rfl
theorem upd_other {α : Type} (T : Nat → α) {j m : Nat} (t : α) (h : m ≠ j) : upd T j t m = T m := if_neg h
theorem lt4 {m : Nat} (h : m < 4) : m = 0 ∨ m = 1 ∨ m = 2 ∨ m = 3 := by omega
def acc (X Y : Nat → Int) : Nat → Nat → Int
  | 0, _ => 0
  | n + 1, m => if m = (n / 4 + n % 4) % 4 then acc X Y n m + (if 4 ≤ n / 4 + n % 4 then -(X (n / 4) * Y (n % 4)) else X (n / 4) * Y (n % 4)) else acc X Y n m
theorem acc_bound {X Y : Nat → Int} {M : Int} (h0 : 0 ≤ M) (h : ∀ i k, i < 4 → k < 4 → -M ≤ X i * Y k ∧ X i * Y k ≤ M) : ∀ n m, n ≤ 16 → -(n * M) ≤ acc X Y n m ∧ acc X Y n m ≤ n * M
  | 0, m, _ => by simp [acc]
  | n + 1, m, hn => by
    have ih := acc_bound h0 h n m Ox
    have hb := h (n / 4) (n % 4) Ox Ox
    have e : ((n + 1 : Nat) : Int) * M = n * M + M := by rw [Int.natCast_add, Int.add_mul]; simp
    rw [e]; simp only [acc]
    split
    · split <;> omega
    · omega
theorem acc_16 (x y : Nm) : (⟨acc (sel4 x.a x.b x.c x.d) (sel4 y.a y.b y.c y.d) 16 0, acc (sel4 x.a x.b x.c x.d) (sel4 y.a y.b y.c y.d) 16 1, acc (sel4 x.a x.b x.c x.d) (sel4 y.a y.b y.c y.d) 16 2, acc (sel4 x.a x.b x.c x.d) (sel4 y.a y.b y.c y.d) 16 3, x.k + y.k⟩ : Nm) = x.mulR y := by
  unfold Nm.mulR
  congr 1 <;> simp [acc, sel4] <;> omega
theorem acc_step {X Y T : Nat → Int} {i k : Nat} (hk : k < 4) (h : acc X Y (i * 4 + k) = T) : acc X Y (i * 4 + (k + 1)) = upd T ((i + k) % 4) (T ((i + k) % 4) + (if 4 ≤ i + k then -(X i * Y k) else X i * Y k)) := by
  funext m
  have e1 : (i * 4 + k) / 4 = i := by omega
  have e2 : (i * 4 + k) % 4 = k := by omega
  rw [show i * 4 + (k + 1) = i * 4 + k + 1 by omega]; simp only [acc]; rw [e1, e2, h]
  unfold upd
  split
  · next hm => rw [hm]
  · rfl
theorem sel_cases {p : Nat → Prop} (h0 : p 0) (h1 : p 1) (h2 : p 2) (h3 : p 3) : ∀ m, m < 4 → p m := fun m hm => by
  rcases lt4 hm with rfl | rfl | rfl | rfl <;> assumption
def smB (n : Int) : Bool := decide (-1000000000 ≤ n) && decide (n ≤ 1000000000)
def numOk (y : Nm) : Bool := smB y.a && (smB y.b && (smB y.c && smB y.d))
def wnum (z : Nm) : Nm × Bool := if numOk z.nf = true then (z.nf, decide (z.nf.k ≤ 40)) else (Nm.zero, false)
end Go.Proofs.YtccbinnlnkpplaaGreat
namespace Go.Proofs.YtccbinnlnkpplaaGreat
set_option linter.all false
set_option maxRecDepth 100000
set_option maxHeartbeats 1000000
open Go.RowKit
section
variable {R : Option Nat} {P : Program} {ops : Array Oper} {Q : Exit → Act → World → Prop} {B : World} {F : List Nat} {s0 : Option (List Blk × List Blk)}
variable {l : List (Oper × Nat)} {a : Act} {s s' : List Blk} {d : Option Tmp} {op : Op} {t : TypeId} {p : String} {af : Array Edge} {v : Value} {gd : Option (Nat × Bool)} {m : Nat}
theorem run_isAgg {T : TypeId} {dd : TypeDesc} (hu : P.underlying T = some dd) (w : World) : (isAgg T).run P w = .ok (isRow dd) w := by
  unfold isAgg
  rw [Sem.run_bind, run_underlying hu w]
  cases dd <;> simp_all [isRow]
theorem rf_idxR {T : Nat} {x y : Operand} {n len e sz : Nat} {cs : Array Value} {k : IntKind} {dd : TypeDesc} (hm : soft03 m = true) (hg : Region.wanted ⟨d, .index T x y, t, p, af, gd⟩ (yielded ops a.tmps) = true)
    (hx : a.eval x = .agg cs) (hy : a.eval y = .int k (n : Int)) (hu : P.underlying T = some (.array len e)) (he : P.underlying e = some dd) (hr : isRow dd = true) (hs : (P.info? e).map (·.size) = some sz) (hn : n < len)
    {vs : Array Value} (hv : cs.extract (n * sz) (n * sz + sz) = vs) (h : Rg R P ops Q B F s0 l (a.put d (.agg vs)) s) : Rg R P ops Q B F s0 ((⟨d, .index T x y, t, p, af, gd⟩, m) :: l) a s := by
  subst hv
  refine rg_any hm hg (fun w => ?_) h
  unfold Yld
  cases hq : P.info? e with
  | none => simp [hq] at hs
  | some q =>
    have hs' : q.size = sz := by simpa [hq] using hs
    have ha := run_isAgg he w
    rw [hr] at ha
    simp [execOp, hx, hy, Instr.index, run_underlying hu, asIntOf, part, ha, sizeOf, typeInfo, hq, hs', hn]
theorem rf_idx1 {T : Nat} {x y : Operand} {n len e : Nat} {cs : Array Value} {k : IntKind} {dd : TypeDesc} (hm : soft03 m = true) (hg : Region.wanted ⟨d, .index T x y, t, p, af, gd⟩ (yielded ops a.tmps) = true)
    (hx : a.eval x = .agg cs) (hy : a.eval y = .int k (n : Int)) (hu : P.underlying T = some (.array len e)) (he : P.underlying e = some dd) (hr : isRow dd = false) (hs : (P.info? e).map (·.size) = some 1) (hn : n < len)
    (hv : cs[n]? = some v) (h : Rg R P ops Q B F s0 l (a.put d v) s) : Rg R P ops Q B F s0 ((⟨d, .index T x y, t, p, af, gd⟩, m) :: l) a s := by
  refine rg_any hm hg (fun w => ?_) h
  unfold Yld
  cases hq : P.info? e with
  | none => simp [hq] at hs
  | some q =>
    have hs' : q.size = 1 := by simpa [hq] using hs
    have ha := run_isAgg he w
    rw [hr] at ha
    simp [execOp, hx, hy, Instr.index, run_underlying hu, asIntOf, part, ha, sizeOf, typeInfo, hq, hs', hn, hv]
end
end Go.Proofs.YtccbinnlnkpplaaGreat
namespace Go.Proofs.YtccbinnlnkpplaaGreat
set_option linter.all false
set_option maxRecDepth 100000
set_option maxHeartbeats 1000000
def dval : List Int → Int
  | [] => 0
  | x :: xs => x + 4294967296 * dval xs
def Dg (xs : List Int) : Prop := ∀ x ∈ xs, 0 ≤ x ∧ x < 4294967296
def dig (xs : List Int) (k : Nat) : Int := xs.getD k 0
def digs (n : Nat) : List Int := if h : n = 0 then [] else (n % 4294967296 : Nat) :: digs (n / 4294967296)
termination_by n
decreasing_by omega
theorem pw_pos (n : Nat) : (0 : Int) < 4294967296 ^ n := Int.pow_pos Ox
theorem pw_succ (n : Nat) : (4294967296 : Int) ^ (n + 1) = 4294967296 * 4294967296 ^ n := by rw [Int.pow_succ, Int.mul_comm]
theorem Dg.nil : Dg [] := fun _ h => nomatch h
theorem Dg.tail {x : Int} {xs : List Int} (h : Dg (x :: xs)) : Dg xs := fun y hy => h y (by simp [hy])
theorem Dg.app {xs ys : List Int} (h : Dg xs) (k : Dg ys) : Dg (xs ++ ys) := fun x hx => (List.mem_append.1 hx).elim (h x) (k x)
theorem Dg.snoc {xs : List Int} {y : Int} (h : Dg xs) (h0 : 0 ≤ y) (h1 : y < 4294967296) : Dg (xs ++ [y]) := h.app fun x hx => by simp at hx; subst hx; exact ⟨h0, h1⟩
theorem Dg.take {xs : List Int} (h : Dg xs) (n : Nat) : Dg (xs.take n) := fun x hx => h x (List.mem_of_mem_take hx)
theorem Dg.drop {xs : List Int} (h : Dg xs) (n : Nat) : Dg (xs.drop n) := fun x hx => h x (List.mem_of_mem_drop hx)
theorem dig_mem {xs : List Int} {k : Nat} (h : k < xs.length) : dig xs k ∈ xs := by
  unfold dig; rw [List.getD_eq_getElem?_getD, List.getElem?_eq_getElem h]; exact List.getElem_mem h
theorem dig_out {xs : List Int} {k : Nat} (h : xs.length ≤ k) : dig xs k = 0 := by
  unfold dig; rw [List.getD_eq_getElem?_getD, List.getElem?_eq_none h]; rfl
theorem Dg.at {xs : List Int} (h : Dg xs) (k : Nat) : 0 ≤ dig xs k ∧ dig xs k < 4294967296 := by
  rcases Nat.lt_or_ge k xs.length with hk | hk
  · exact h _ (dig_mem hk)
  · rw [dig_out hk]; omega
theorem dval_app : ∀ (xs ys : List Int), dval (xs ++ ys) = dval xs + 4294967296 ^ xs.length * dval ys
  | [], ys => by simp [dval]
  | x :: xs, ys => by
    have := dval_app xs ys
    simp only [List.cons_append, dval, List.length_cons]; rw [this, pw_succ]
    grind
theorem dval_snoc (xs : List Int) (y : Int) : dval (xs ++ [y]) = dval xs + 4294967296 ^ xs.length * y := by
  rw [dval_app]; simp [dval]
theorem dval_range : ∀ {xs : List Int}, Dg xs → 0 ≤ dval xs ∧ dval xs < 4294967296 ^ xs.length
  | [], _ => by simp [dval]
  | x :: xs, h => by
    have h1 := dval_range h.tail
    have h2 := h x (by simp)
    simp only [dval, List.length_cons]; rw [pw_succ]
    omega
theorem take_snoc {xs : List Int} {k : Nat} (h : k < xs.length) : xs.take (k + 1) = xs.take k ++ [dig xs k] := by
  unfold dig
  rw [List.take_succ, List.getD_eq_getElem?_getD, List.getElem?_eq_getElem h]
  rfl
theorem dval_take {xs : List Int} {k : Nat} (h : k < xs.length) : dval (xs.take (k + 1)) = dval (xs.take k) + 4294967296 ^ k * dig xs k := by
  rw [take_snoc h, dval_snoc, List.length_take, Nat.min_eq_left Ox]
theorem dval_take_out {xs : List Int} {k : Nat} (h : xs.length ≤ k) : dval (xs.take k) = dval xs := by rw [List.take_of_length_le h]
theorem dval_take' (xs : List Int) (k : Nat) : dval (xs.take (k + 1)) = dval (xs.take k) + 4294967296 ^ k * dig xs k := by
  rcases Nat.lt_or_ge k xs.length with h | h
  · exact dval_take h
  · rw [dval_take_out h, dval_take_out Ox, dig_out h]; omega
theorem dval_split (xs : List Int) (k : Nat) : dval xs = dval (xs.take k) + 4294967296 ^ k * dval (xs.drop k) := by
  rcases Nat.lt_or_ge k xs.length with h | h
  · have := dval_app (xs.take k) (xs.drop k)
    rw [List.take_append_drop, List.length_take, Nat.min_eq_left Ox] at this
    exact this
  · rw [dval_take_out h, List.drop_of_length_le h]; simp [dval]
theorem dval_zero : ∀ {xs : List Int}, (∀ j, dig xs j = 0) → dval xs = 0
  | [], _ => rfl
  | x :: xs, h => by
    have h1 : dval xs = 0 := dval_zero fun j => h (j + 1)
    have h2 : x = 0 := h 0
    simp only [dval, h1, h2]
    omega
theorem dig_drop (xs : List Int) (k j : Nat) : dig (xs.drop k) j = dig xs (k + j) := by
  unfold dig; rw [List.getD_eq_getElem?_getD, List.getD_eq_getElem?_getD, List.getElem?_drop]
theorem dig_take {xs : List Int} {k j : Nat} (h : j < k) : dig (xs.take k) j = dig xs j := by
  unfold dig; rw [List.getD_eq_getElem?_getD, List.getD_eq_getElem?_getD, List.getElem?_take_of_lt h]
theorem dval_cut {xs : List Int} {k : Nat} (h : ∀ j, k ≤ j → dig xs j = 0) : dval xs = dval (xs.take k) := by
  rw [dval_split xs k, dval_zero (xs := xs.drop k) fun j => by rw [dig_drop]; exact h _ Ox]; simp
theorem digs_zero : digs 0 = [] := by unfold digs; simp
theorem digs_pos {n : Nat} (h : n ≠ 0) : digs n = ((n % 4294967296 : Nat) : Int) :: digs (n / 4294967296) := by rw [digs]; simp [h]
theorem digs_dg (n : Nat) : Dg (digs n) := by
  induction n using Nat.strongRecOn with
  | _ n ih =>
    by_cases h : n = 0
    · subst h; rw [digs_zero]; exact Dg.nil
    · rw [digs_pos h]; intro x hx
      rcases List.mem_cons.1 hx with rfl | hx
      · omega
      · exact ih _ Ox x hx
theorem dval_digs (n : Nat) : dval (digs n) = n := by
  induction n using Nat.strongRecOn with
  | _ n ih =>
    by_cases h : n = 0
    · subst h; rw [digs_zero]; rfl
    · rw [digs_pos h]; simp only [dval]; rw [ih _ Ox]
      omega
def Trim (xs : List Int) : Prop := xs = [] ∨ dig xs (xs.length - 1) ≠ 0
theorem digs_trim (n : Nat) : Trim (digs n) := by
  induction n using Nat.strongRecOn with
  | _ n ih =>
    by_cases h : n = 0
    · subst h; exact .inl digs_zero
    · rw [digs_pos h]; refine .inr ?_
      rcases ih (n / 4294967296) Ox with he | he
      · rw [he]
        have : n / 4294967296 = 0 := by
          have := dval_digs (n / 4294967296)
          rw [he] at this
          simp [dval] at this
          omega
        show ((n % 4294967296 : Nat) : Int) ≠ 0
        omega
      · have h0 : 0 < (digs (n / 4294967296)).length := by
          rcases Nat.eq_zero_or_pos (digs (n / 4294967296)).length with h0 | h0
          · rw [List.eq_nil_of_length_eq_zero h0] at he; exact absurd rfl he
          · exact h0
        rw [show (((n % 4294967296 : Nat) : Int) :: digs (n / 4294967296)).length - 1 = ((digs (n / 4294967296)).length - 1) + 1 by simp; omega]
        exact he
theorem digs_unique : ∀ {xs : List Int}, Dg xs → Trim xs → xs = digs (dval xs).toNat
  | [], _, _ => by simp [dval, digs_zero]
  | x :: xs, h, ht => by
    have hx := h x (by simp)
    have hr := dval_range h.tail
    have ht' : Trim xs := by
      by_cases he : xs = []
      · exact .inl he
      · refine .inr ?_
        have h0 : 0 < xs.length := List.length_pos_iff.2 he
        rcases ht with ht | ht
        · cases ht
        · rw [show (x :: xs).length - 1 = (xs.length - 1) + 1 by simp; omega] at ht
          exact ht
    have hne : (dval (x :: xs)).toNat ≠ 0 := by
      simp only [dval]; intro h0
      have hx0 : x = 0 := by omega
      have hv0 : dval xs = 0 := by omega
      have := digs_unique h.tail ht'
      rw [hv0] at this; simp only [Int.toNat_zero, digs_zero] at this
      subst this
      rcases ht with ht | ht
      · cases ht
      · exact ht hx0
    rw [digs_pos hne]
    have e1 : (((dval (x :: xs)).toNat % 4294967296 : Nat) : Int) = x := by simp only [dval]; omega
    have e2 : (dval (x :: xs)).toNat / 4294967296 = (dval xs).toNat := by simp only [dval]; omega
    rw [e1, e2, ← digs_unique h.tail ht']
theorem trim_eq {xs : List Int} {m : Nat} (h : Dg xs) (hm : m ≤ xs.length) (hz : ∀ j, m ≤ j → dig xs j = 0) (hl : m = 0 ∨ dig xs (m - 1) ≠ 0) : xs.take m = digs (dval xs).toNat := by
  rw [dval_cut hz]; refine digs_unique (h.take m) ?_
  rcases hl with rfl | hl
  · exact .inl (by simp)
  · by_cases h0 : m = 0
    · subst h0; exact .inl (by simp)
    · refine .inr ?_; rw [List.length_take, Nat.min_eq_left hm, dig_take Ox]
      exact hl
theorem digs_len_le {n L : Nat} (h : (n : Int) < 4294967296 ^ L) : (digs n).length ≤ L := by
  rcases Nat.lt_or_ge L (digs n).length with hl | hl
  · exfalso
    have h1 := dval_digs n
    have h2 := digs_trim n
    rcases h2 with h2 | h2
    · rw [h2] at hl; simp at hl
    · have h3 := dval_split (digs n) ((digs n).length - 1)
      have h4 := (dval_range ((digs_dg n).take ((digs n).length - 1))).1
      have h5 : dval ((digs n).drop ((digs n).length - 1)) = dig (digs n) ((digs n).length - 1) := by
        have e : dval ((digs n).drop ((digs n).length - 1)) = dval (((digs n).drop ((digs n).length - 1)).take 1) := by rw [List.take_of_length_le (by simp; omega)]
        rw [e, dval_take (by simp; omega), dig_drop]
        simp [dval]
      have h6 := ((digs_dg n).at ((digs n).length - 1)).1
      rw [h5] at h3
      have h7 : (4294967296 : Int) ^ L ≤ 4294967296 ^ ((digs n).length - 1) := by
        obtain ⟨d, hd⟩ : ∃ d, (digs n).length - 1 = L + d := ⟨(digs n).length - 1 - L, by omega⟩
        rw [hd, Int.pow_add]
        have := pw_pos d
        have := pw_pos L
        have h9 : (1 : Int) ≤ 4294967296 ^ d := by omega
        have := Int.mul_le_mul_of_nonneg_left h9 (c := (4294967296 : Int) ^ L) Ox
        omega
      have h8 : (4294967296 : Int) ^ ((digs n).length - 1) * 1 ≤ 4294967296 ^ ((digs n).length - 1) * dig (digs n) ((digs n).length - 1) :=
        Int.mul_le_mul_of_nonneg_left Ox (by have := pw_pos ((digs n).length - 1); omega)
      omega
  · exact hl
theorem digs_lt_of_len {m n : Nat} (h : (digs m).length < (digs n).length) : m < n := by
  rcases Nat.lt_or_ge m n with hl | hl
  · exact hl
  · exfalso
    have h1 := dval_digs m
    have h2 := (dval_range (digs_dg m)).2
    have := digs_len_le (n := n) (L := (digs m).length) Ox
    omega
theorem lt_of_dig {xs ys : List Int} {i : Nat} (hx : Dg xs) (hy : Dg ys) (hi : i < xs.length) (hl : xs.length = ys.length) (hj : ∀ j, i < j → dig xs j = dig ys j) (h : dig xs i < dig ys i) : dval xs < dval ys := by
  have e1 := dval_split xs (i + 1)
  have e2 := dval_split ys (i + 1)
  have e3 : xs.drop (i + 1) = ys.drop (i + 1) := by
    apply List.ext_getElem
    · simp [hl]
    · intro j h1 h2
      have := hj (i + 1 + j) Ox
      simp only [List.length_drop] at h1 h2
      unfold dig at this
      rw [List.getD_eq_getElem?_getD, List.getD_eq_getElem?_getD, List.getElem?_eq_getElem Ox, List.getElem?_eq_getElem Ox] at this
      simpa using this
  rw [dval_take hi] at e1; rw [dval_take Ox] at e2; rw [e3] at e1
  have r1 := (dval_range (hx.take i)).2
  have r2 := (dval_range (hy.take i)).1
  rw [List.length_take, Nat.min_eq_left Ox] at r1
  have := pw_pos i
  have h8 : (4294967296 : Int) ^ i * (dig xs i + 1) ≤ 4294967296 ^ i * dig ys i := Int.mul_le_mul_of_nonneg_left Ox Ox
  rw [Int.mul_add] at h8
  omega
theorem eq_of_dig {xs ys : List Int} (hl : xs.length = ys.length) (hj : ∀ j, dig xs j = dig ys j) : xs = ys := by
  apply List.ext_getElem hl
  intro j h1 h2
  have := hj j
  unfold dig at this
  rw [List.getD_eq_getElem?_getD, List.getD_eq_getElem?_getD, List.getElem?_eq_getElem h1, List.getElem?_eq_getElem h2] at this
  simpa using this
theorem dval_set : ∀ {xs : List Int} {j : Nat} (y : Int), j < xs.length → dval (xs.set j y) = dval xs + 4294967296 ^ j * (y - dig xs j)
  | x :: xs, 0, y, _ => by simp [dval, dig]; omega
  | x :: xs, j + 1, y, h => by
    have := dval_set (xs := xs) (j := j) y (by simpa using h)
    simp only [List.set_cons_succ, dval]; rw [this, pw_succ]
    have e : dig (x :: xs) (j + 1) = dig xs j := rfl
    rw [e]
    grind
theorem dig_set {xs : List Int} {j : Nat} (y : Int) (k : Nat) (h : j < xs.length) : dig (xs.set j y) k = if k = j then y else dig xs k := by
  unfold dig
  rw [List.getD_eq_getElem?_getD, List.getElem?_set, List.getD_eq_getElem?_getD]
  split
  · next e => subst e; simp [h]
  · next e => rw [if_neg (Ne.symm e)]
theorem Dg.set {xs : List Int} (h : Dg xs) (j : Nat) {y : Int} (h0 : 0 ≤ y) (h1 : y < 4294967296) : Dg (xs.set j y) := fun x hx => by
  rcases List.mem_or_eq_of_mem_set hx with h' | rfl
  · exact h x h'
  · exact ⟨h0, h1⟩
theorem digs_nil_iff {n : Nat} : digs n = [] ↔ n = 0 := by
  constructor
  · intro h; have := dval_digs n; rw [h] at this; simp [dval] at this; omega
  · rintro rfl; exact digs_zero
theorem digs_even (n : Nat) : dig (digs n) 0 % 2 = (n : Int) % 2 := by
  by_cases h : n = 0
  · subst h; rw [digs_zero]; rfl
  · rw [digs_pos h]
    show ((n % 4294967296 : Nat) : Int) % 2 = _
    omega
theorem plus_step {xs ys zs : List Int} {i : Nat} {cy t : Int} (hl : zs.length = i) (h : dval zs + 4294967296 ^ i * cy = dval (xs.take i) + dval (ys.take i)) (ht : t = cy + dig xs i + dig ys i) :
    dval (zs ++ [t % 4294967296]) + 4294967296 ^ (i + 1) * (t / 4294967296) = dval (xs.take (i + 1)) + dval (ys.take (i + 1)) := by
  rw [dval_snoc, hl, dval_take', dval_take', pw_succ]
  have e : 4294967296 ^ i * (t % 4294967296) + 4294967296 * 4294967296 ^ i * (t / 4294967296) = 4294967296 ^ i * t := by
    have := Int.mul_ediv_add_emod t 4294967296
    grind
  have e2 : (4294967296 : Int) ^ i * t = 4294967296 ^ i * cy + 4294967296 ^ i * dig xs i + 4294967296 ^ i * dig ys i := by rw [ht]; grind
  omega
theorem minus_step {xs ys zs : List Int} {i : Nat} {bo t : Int} (hl : zs.length = i) (h : dval zs = dval (xs.take i) - dval (ys.take i) + 4294967296 ^ i * bo) (ht : t = dig xs i - bo - dig ys i) (q : Int) :
    dval (zs ++ [t + 4294967296 * q]) = dval (xs.take (i + 1)) - dval (ys.take (i + 1)) + 4294967296 ^ (i + 1) * q := by
  rw [dval_snoc, hl, dval_take', dval_take', pw_succ, ht, h]
  grind
end Go.Proofs.YtccbinnlnkpplaaGreat
namespace Go.Proofs.YtccbinnlnkpplaaGreat
set_option linter.all false
set_option maxRecDepth 100000
set_option maxHeartbeats 1000000
open Go.RowKit
abbrev DgE : El Int := ⟨1, fun x => [.int .u32 x], 0, by decide, fun _ => rfl, fun x v hv => by simp at hv; subst hv; rfl⟩
abbrev us (xs : List Int) : List Value := DgE.flat xs
theorem us_get (xs : List Int) (k : Nat) (h : k < xs.length) : (us xs)[k]? = some (.int .u32 (dig xs k)) := by
  have := DgE.get xs k 0 h (by decide)
  simp only [Nat.mul_one, Nat.add_zero] at this
  exact this
theorem us_len (xs : List Int) : (us xs).length = xs.length := by rw [DgE.flat_len]; simp
theorem AS.openU {w : World} {a : Option Addr} {xs : List Int} (h : AS w a (us xs)) (hn : 0 < xs.length) :
    ∃ b off, a = some ⟨b, off, none⟩ ∧ b < w.heap.size ∧ ∀ j, j < xs.length → w.cell? ⟨b, off + j, none⟩ = some (.int .u32 (dig xs j)) := by
  obtain ⟨b, off, ha, hb, hc⟩ := h.openG hn
  exact ⟨b, off, ha, hb, fun j hj => by have := hc j hj 0 (by decide); simpa [dig, El.at] using this⟩
theorem us_take (xs : List Int) (m : Nat) : us (xs.take m) = (us xs).take m := by
  have : ∀ ys : List Int, us ys = ys.map (.int .u32) := fun ys => by
    induction ys with
    | nil => rfl
    | cons y ys ih => rw [us, El.flat_cons, List.map_cons, ← ih]; rfl
  rw [this, this, List.map_take]
theorem AS.take {w : World} {a : Option Addr} {xs : List Int} (h : AS w a (us xs)) (m : Nat) : AS w a (us (xs.take m)) := by
  intro hne
  have hne' : us xs ≠ [] := by intro e; rw [us_take, e] at hne; simp at hne
  obtain ⟨b, off, ha, hb, hc⟩ := h hne'
  refine ⟨b, off, ha, hb, fun j hj => ?_⟩; rw [us_take] at hj ⊢; rw [List.length_take] at hj; rw [hc j Ox, List.getElem?_take, if_pos Ox]
def SA (w : World) (s : Value) (n : Nat) : Prop := ∃ a c, s = .slice a (digs n).length c ∧ AS w a (us (digs n))
def SU (u : List Blk) (s : Value) (n : Nat) : Prop := (∃ a c, s = .slice a (digs n).length c) ∧ ∀ (B : World) (F : List Nat) (w : World), Kn B F u w → SA w s n
theorem SU.mono {u v : List Blk} {s : Value} {n : Nat} (h : SU u s n) (hs : u.Sublist v) : SU v s n := ⟨h.1, fun B F w K => h.2 B F w (K.sub hs)⟩
theorem SU.at {u s : List Blk} {v : Value} {n : Nat} {B w : World} {F : List Nat} (h : SU u v n) (K : Kn B F s w) (hs : u.Sublist s) : SA w v n := h.2 B F w (K.sub hs)
theorem SA.below {w w' : World} {s : Value} {n : Nat} (h : SA w s n) (hb : Below w.heap.size w w') : SA w' s n := let ⟨a, c, e, hA⟩ := h; ⟨a, c, e, hA.below hb⟩
theorem SA.kn {B w : World} {s : List Blk} {v : Value} {n : Nat} (h : SA B v n) (K : Kn B [] s w) : SA w v n := let ⟨a, c, e, hA⟩ := h; ⟨a, c, e, hA.kn0 K⟩
theorem SU.own {e : Nat} {u : List Blk} {v : Value} {n : Nat} {xs : List Int} (h : OwnG DgE e u v xs) (m : Nat) (hm : m ≤ xs.length) (hd : xs.take m = digs n) :
    ∀ {a : Option Addr} {c : Nat}, v = .slice a xs.length c → SU u (.slice a m c) n := by
  intro a c hv; refine ⟨⟨a, c, by rw [← hd, List.length_take, Nat.min_eq_left hm]⟩, fun B F w K => ?_⟩
  obtain ⟨a', cap, e1, hA⟩ := h.as (s := []) (by simpa using K)
  rw [hv] at e1
  injection e1 with e1 e2 e3
  subst e1 e3
  refine ⟨a, c, ?_, ?_⟩
  · rw [← hd, List.length_take, Nat.min_eq_left hm]
  · rw [← hd]; exact hA.take m
theorem SU.nil : SU [] (.slice none 0 0) 0 := ⟨⟨none, 0, by rw [digs_zero]; rfl⟩, fun B F w K => ⟨none, 0, by rw [digs_zero]; rfl, by rw [digs_zero]; exact AS.nil⟩⟩
theorem SA.nil {w : World} : SA w (.slice none 0 0) 0 := ⟨none, 0, by rw [digs_zero]; rfl, by rw [digs_zero]; exact AS.nil⟩
abbrev bgV (n : Int) (s : Value) : Value := .agg #[.bool (decide (n < 0)), s]
def RetB (w : World) (n : Int) (e : Ending) (w' : World) : Prop := ∃ v u, e = .returned v ∧ (∃ s, v = bgV n s ∧ SU u s n.natAbs) ∧ Made w u w'
def RetD (w : World) (n : Nat) (e : Ending) (w' : World) : Prop := ∃ v u, e = .returned v ∧ SU u v n ∧ Made w u w'
theorem uInfo : (Tryz.prog.info? 138).map (fun i => (i.zero, i.size, i.bytes)) = some (some (.int .u32 0), 1, 4) := by kernel_rfl
theorem ip {P : Program} {t : TypeId} {z : Option Value} {n b : Nat} (h : (P.info? t).map (fun i => (i.zero, i.size, i.bytes)) = some (z, n, b)) : ∃ i, P.info? t = some i ∧ i.zero = z ∧ i.size = n ∧ i.bytes = b := by
  cases hi : P.info? t with
  | none => rw [hi] at h; cases h
  | some i => rw [hi] at h; simp at h; exact ⟨i, rfl, h.1, h.2.1, h.2.2⟩
theorem OwnG.val {α : Type} {E : El α} {e : Nat} {u : List Blk} {v : Value} {xs : List α} (h : OwnG E e u v xs) : ∃ a cap, v = .slice a xs.length cap ∧ xs.length ≤ cap := Own.val h
theorem OwnG.as' {α : Type} {E : El α} {e : Nat} {u s : List Blk} {a : Option Addr} {n c : Nat} {xs : List α} {B w : World} {F : List Nat} (h : OwnG E e u (.slice a n c) xs) (K : Kn B F (u ++ s) w) : AS w a (E.flat xs) := by
  obtain ⟨a', cap, e1, hA⟩ := h.as K
  injection e1 with e1 e2 e3
  subst e1
  exact hA
section
variable {R : Option Nat} {ops : Array Oper} {Q : Exit → Act → World → Prop} {B : World} {F : List Nat} {s0 : Option (List Blk × List Blk)}
variable {l : List (Oper × Nat)} {a : Act} {s S : List Blk} {d : Option Tmp} {t : TypeId} {p : String} {af : Array Edge} {v : Value}
theorem rg_pushU {so xo : Operand} {u : List Blk} {xs : List Int} {g1 : Nat} {x : Int} {gd : Option (Nat × Bool)} (hg : Region.wanted ⟨d, .call ⟨.builtin .append, #[so, xo], #[79, 79]⟩, t, p, af, gd⟩ (yielded ops a.tmps) = true)
    (hs : a.eval so = v) (hown : OwnG DgE 138 u v xs) (hx : a.eval xo = .slice (some ⟨g1, 0, none⟩) 1 1) (hn : xs.length ≤ 1000000) (hzz : ∀ z ∈ s0, z.1.Sublist s)
    (h : ∀ u' v', OwnG DgE 138 u' v' (xs ++ [x]) → Rg R Tryz.prog ops Q B F s0 l (a.put d v') (u' ++ s)) :
    Rg R Tryz.prog ops Q B F s0 ((⟨d, .call ⟨.builtin .append, #[so, xo], #[79, 79]⟩, t, p, af, gd⟩, 1) :: l) a ((g1, .cells #[.int .u32 x] 138) :: (u ++ s)) := by
  obtain ⟨i, hi, hz, hsz, hb⟩ := ip uInfo
  refine rg_append1 (E := DgE) (i := i) (z := .int .u32 0) (u := u) (s := (g1, .cells #[.int .u32 x] 138) :: s) (x := x) (g := g1) hg Tryz.underlying79 hi hz hsz rfl Ox hs hown hx Ox List.perm_middle.symm (fun w K => Kn.hd0 K)
    (fun z hz' => (hzz z hz').trans (List.sublist_cons_self _ _)) fun u' v' hO => ?_
  exact rg_sub (List.Sublist.append_left (List.sublist_cons_self _ _) _) (fun z hz' => (hzz z hz').trans (List.sublist_append_right _ _)) (h u' v' hO)
end
theorem trimmed_any (xs : List Int) (a : Option Addr) (c : Nat) (hd : Dg xs) (hc : xs.length ≤ c) (hl : xs.length ≤ 1000000) (w : World) (hA : AS w a (us xs)) : Calls Tryz.prog 103 #[.slice a xs.length c] w fun e w' => ∃ m, m ≤ xs.length ∧ e = .returned (.slice a m c) ∧ (∀ j, m ≤ j → dig xs j = 0) ∧ (m = 0 ∨ dig xs (m - 1) ≠ 0) ∧ Below w.heap.size w w' := by
 go_enter Tryz.func103, Tryz.ntmps103
 refine wk_start ?_
 refine wk_seq ?_
 refine wk_region [0] rfl Kx ?_
 refine Zm ?_
 refine rg_nil (ek_next (wk_seq (wk_block ?_)))
 refine wk_loopF [0, 3, 4, 5, 6, 7, 8, 9, 10, 11, 12, 13, 14, 15, 16, 17, 18, 19] (fun mz f s => ∃ (m : Nat), f 0 = .slice a m c ∧ f 2 = .slice none 0 0 ∧ s = [] ∧ mz = m ∧ m ≤ xs.length ∧ (∀ j, m ≤ j → dig xs j = 0)) ((fun (m : Nat) => m) (xs.length)) ?_ Kx ?_
 ·exact ⟨xs.length, rfl, rfl, rfl, rfl, by omega, fun j hj => dig_out hj⟩
 rintro mz f1 s ⟨m, hs1_0, hs1_2, rfl, hn, hc1, hc2⟩
 simp only [Act.putF, List.foldl_cons, List.foldl_nil, hs1_0, hs1_2, Act.put, Act.eval, q1, q2, q3, q4, q5, q6, q7, q8, q9, q10, q11, q12, q13, q14, q15, q16, q17, q18, Nat.reduceAdd, Bool.not_true, Bool.not_false]
 clear hs1_0 hs1_2
 refine wk_seq (wk_seq ?_)
 refine wk_region [0, 0, 0, 0, 0, 0, 0, 0, 0, 0, 0, 0] rfl Kx ?_
 refine Zm ?_
 refine rf_len rfl rfl rfl Tryz.underlying79 ?_
 simp only [qz]
 refine rfb_gtr rfl rfl rfl rfl ?_
 intro x h1
 cases x
 ·(try simp only [qd, ne_eq] at h1)
  refine Zm ?_; refine rf_pick rfl rfl rfl ?_; simp only [qz]; refine rg_nil (ek_next (wk_cond_f rfl (wk_exit (ek_then_exit (ek_then_exit (ek_block_exit (ek_next (wk_seq ?_)))))))); refine wk_region [0, 0] rfl Kx ?_; refine Zm ?_; refine rg_nil (ek_next (wk_ret ?_)); refine ek_ret (fun w hw => ⟨rfl, _, res_t _ rfl, ?_⟩); (try simp only [qz])
  exact ⟨m, hc1, rfl, hc2, Or.inl Ox, hw.below⟩
 (try simp only [qd, ne_eq] at h1)
 simp only [qz]
 obtain ⟨b, off, rfl, hlt, hcell⟩ := AS.openU hA Ox
 have hdg := hd.at (m - 1)
 refine Zm ?_
 apply rg_soft_g
 case hg => rfl
 case hy => (intro w hw; go_simp; (try go_bits); exact Yld.mk _ _)
 simp only [qz]
 apply rg_soft_g
 case hg => rfl
 case hy => (intro w hw; go_simp; (try go_bits); exact Yld.mk _ _)
 simp only [qz]
 refine rf_len rfl rfl rfl Tryz.underlying79 ?_
 simp only [qz]
 refine rf_sub rfl rfl rfl rfl (wrap_ok Ox Ox) ?_
 simp only [qz]
 refine rf_indexS (n := m - 1) (sz := 1) (j := off + (m - 1) * 1) rfl rfl rfl rfl Tryz.underlying79 Kx Ox Ox rfl ?_
 simp only [qz]
 refine rf_load rfl rfl rfl Tryz.underlying138 rfl (fun w hw => (by have := (Kn.cellB hw hlt (by simp) (off + (m - 1))).trans (hcell (m - 1) Ox); simpa using this)) ?_
 simp only [qz]
 refine rfb_eql rfl rfl rfl rfl ?_
 intro x h2
 cases x
 ·(try simp only [qd, ne_eq] at h2)
  simp only [qz]; refine rf_pick rfl rfl rfl ?_; simp only [qz]; refine rg_nil (ek_next (wk_cond_f rfl (wk_exit (ek_then_exit (ek_then_exit (ek_block_exit (ek_next (wk_seq ?_)))))))); refine wk_region [0, 0] rfl Kx ?_; refine Zm ?_; refine rg_nil (ek_next (wk_ret ?_)); refine ek_ret (fun w hw => ⟨rfl, _, res_t _ rfl, ?_⟩); (try simp only [qz])
  exact ⟨m, hc1, rfl, hc2, Or.inr Ox, hw.below⟩
 (try simp only [qd, ne_eq] at h2)
 simp only [qz]
 refine rf_pick rfl rfl rfl ?_
 simp only [qz]
 refine rg_nil (ek_next (wk_cond_t rfl (wk_skip (ek_next (wk_block ?_)))))
 refine wk_region [0, 0, 0, 0, 0, 0] rfl Kx ?_
 refine Zm ?_
 refine rf_len rfl rfl rfl Tryz.underlying79 ?_
 simp only [qz]
 refine rf_sub rfl rfl rfl rfl (wrap_ok Ox Ox) ?_
 simp only [qz]
 refine rf_sliceTo (n := m - 1) (sz := 1) rfl rfl rfl rfl Tryz.underlying79 Kx Ox Ox ?_
 refine Zm ?_
 refine rg_nil (ek_block ?_)
 refine ek_roundF (m - 1) Ox Kx ?_
 exact ⟨m - 1, rfl, rfl, by rfl, by rfl, by omega, fun j hj => if he : j = m - 1 then (by subst he; omega) else hc2 j Ox⟩
theorem bplus_any (xs ys : List Int) (a a2 : Option Addr) (c c2 : Nat) (hd : Dg xs) (hd2 : Dg ys) (hl : xs.length ≤ 100000) (hl2 : ys.length ≤ 100000) (w : World) (hA : AS w a (us xs)) (hA2 : AS w a2 (us ys)) : Calls Tryz.prog 100 #[.slice a xs.length c, .slice a2 ys.length c2] w fun e w' => RetD w (dval xs + dval ys).toNat e w' := by
 go_enter Tryz.func100, Tryz.ntmps100
 refine wk_start ?_
 refine wk_seq ?_
 refine wk_region [0] rfl Kx ?_
 refine Zm ?_
 refine rg_nil (ek_next (wk_seq ?_))
 refine wk_region [0] rfl Kx ?_
 refine Zm ?_
 refine rg_nil (ek_next (wk_seq ?_))
 refine wk_region [0] rfl Kx ?_
 refine Zm ?_
 refine rg_nil (ek_next (wk_seq (wk_seq ?_)))
 refine wk_region [0] rfl Kx ?_
 refine Zm ?_
 refine rg_nil (ek_next (wk_block ?_))
 refine wk_loopF [5, 6, 7, 8, 9, 10, 11, 12, 13, 14, 15, 16, 17, 18, 19, 20, 21, 22, 23, 24, 25, 26, 27, 28, 29, 30, 31, 32, 33, 34, 35, 36, 37, 38, 39, 40, 41, 42, 43, 44, 45, 46, 47, 48, 49, 50, 51, 52] (fun mz f s => ∃ (i : Nat) (cy : Int) (v : Value) (u : List Blk) (zs : List Int), f 5 = v ∧ f 6 = .int .u64 cy ∧ f 7 = .int .i64 i ∧ s = (u ++ []) ∧ mz = 1000000 - i ∧ OwnG DgE 138 u v zs ∧ Dg zs ∧ zs.length ≤ i ∧ i ≤ zs.length ∧ 0 ≤ cy ∧ cy ≤ 1 ∧ dval zs + 4294967296 ^ i * cy = dval (xs.take i) + dval (ys.take i) ∧ (i ≤ 100000 ∨ i ≤ 100001 ∧ cy = 0)) ((fun (i : Nat) (cy : Int) (v : Value) (u : List Blk) (zs : List Int) => 1000000 - i) (0) (0) (.slice none 0 0) ([]) ([])) ?_ Kx ?_
 ·exact ⟨0, 0, .slice none 0 0, [], [], rfl, rfl, rfl, rfl, rfl, OwnG.nil, Dg.nil, by simp, by simp, by omega, by omega, by simp [dval], by omega⟩
 rintro mz f1 s ⟨i, cy, v, u, zs, hs1_5, hs1_6, hs1_7, rfl, hn, hc1, hc2, hc3, hc4, hc5, hc6, hc7, hc8⟩
 simp only [Act.putF, List.foldl_cons, List.foldl_nil, hs1_5, hs1_6, hs1_7, Act.put, Act.eval, q1, q2, q3, q4, q5, q6, q7, q8, q9, q10, q11, q12, q13, q14, q15, q16, q17, q18, Nat.reduceAdd, Bool.not_true, Bool.not_false]
 clear hs1_5 hs1_6 hs1_7
 have hO := hc1
 have hdz := hc2
 have heq := Lib.hid hc7
 clear hc2 hc7
 refine wk_seq (wk_seq ?_)
 refine wk_region [0, 0, 0, 0, 0, 0, 0, 0, 0, 0, 0, 0, 0, 0] rfl Kx ?_
 refine Zm ?_
 refine rf_len rfl rfl rfl Tryz.underlying79 ?_
 simp only [qz]
 refine rfb_lss rfl rfl rfl rfl ?_
 intro x h1
 cases x
 ·(try simp only [qd, ne_eq] at h1)
  refine Zm ?_; apply rg_soft_g
  case hg => rfl
  case hy => (intro w hw; go_simp; (try go_bits); exact Yld.mk _ _)
  simp only [qz]; apply rg_soft_g
  case hg => rfl
  case hy => (intro w hw; go_simp; (try go_bits); exact Yld.mk _ _)
  simp only [qz]; refine rf_len rfl rfl rfl Tryz.underlying79 ?_; simp only [qz]; refine rfb_lss rfl rfl rfl rfl ?_; intro x h2; cases x
  ·(try simp only [qd, ne_eq] at h2)
   simp only [qz]; refine rf_pick rfl rfl rfl ?_; refine Zm ?_; apply rg_soft_g
   case hg => rfl
   case hy => (intro w hw; go_simp; (try go_bits); exact Yld.mk _ _)
   simp only [qz]; refine rfb_gtr rfl rfl rfl rfl ?_; intro x h3; cases x
   ·(try simp only [qd, ne_eq] at h3)
    simp only [qz]; refine rf_pick rfl rfl rfl ?_; simp only [qz]; refine rg_nil (ek_next (wk_cond_f rfl (wk_exit (ek_then_exit (ek_then_exit (ek_block_exit (ek_next (wk_seq ?_)))))))); refine wk_region [0, 1, 0] rfl Kx ?_; refine Zm ?_
    obtain ⟨a0, c0, rfl, hcap⟩ := hO.val
    apply (rg_or (X := fun v => ∃ m, m ≤ zs.length ∧ v = .slice a0 m c0 ∧ (∀ j, m ≤ j → dig zs j = 0) ∧ (m = 0 ∨ dig zs (m - 1) ≠ 0))) Rx Kx
    case hargs => exact Ax
    case h => exact fun w hw => (trimmed_any zs a0 c0 hdz hcap Ox w (hO.as' hw)).mono fun e w' ⟨m, h1, h2, h3, h4, h5⟩ => ⟨_, h2, ⟨m, h1, rfl, h3, h4⟩, h5⟩
    case hz => exact Nz
    rintro v ⟨m, hm1, rfl, hm2, hm3⟩
    refine Zm ?_; refine rg_nil (ek_next (wk_ret ?_)); refine ek_ret (fun w hw => ⟨rfl, _, res_t _ rfl, ?_⟩); (try simp only [qz])
    have e1 : dval zs = dval xs + dval ys := by
     have h1 := heq.out
     rw [List.take_of_length_le Ox, List.take_of_length_le Ox, show cy = 0 by omega] at h1
     omega
    exact ⟨_, u, rfl, e1 ▸ SU.own hO m hm1 (trim_eq hdz hm1 hm2 hm3) rfl, hw.made (by simp)⟩
   (try simp only [qd, ne_eq] at h3); simp only [qz]; refine rf_pick rfl rfl rfl ?_; simp only [qz]; refine rg_nil (ek_next (wk_cond_t rfl (wk_skip (ek_next (wk_seq (wk_block (wk_seq (wk_seq ?_)))))))); refine wk_region [0, 0, 0, 0] rfl Kx ?_; refine Zm ?_; refine rf_len rfl rfl rfl Tryz.underlying79 ?_; simp only [qz]; refine rfb_lss rfl rfl rfl rfl ?_; intro x h4; cases x
   ·(try simp only [qd, ne_eq] at h4)
    simp only [qz]
    have dx := hd.at i
    have dy := hd2.at i
    have zx := dig_out (xs := xs) (k := i) Ox
    refine rg_nil (ek_next (wk_cond_f rfl (wk_skip (ek_next (wk_seq (wk_seq ?_)))))); refine wk_region [0, 0, 0, 0] rfl Kx ?_; refine Zm ?_; refine rf_len rfl rfl rfl Tryz.underlying79 ?_; simp only [qz]; refine rfb_lss rfl rfl rfl rfl ?_; intro x h5; cases x
    ·(try simp only [qd, ne_eq] at h5)
     simp only [qz]
     have zy := dig_out (xs := ys) (k := i) Ox
     refine rg_nil (ek_next (wk_cond_f rfl (wk_skip (ek_next (wk_seq ?_))))); refine wk_region [0, 0, 0, 1, 1, 0] rfl Kx ?_; refine Zm ?_; refine rf_conv rfl rfl rfl Tryz.underlying101 Tryz.underlying138 (IntKind.wrap_u32 _) ?_; simp only [qz]
     refine rg_newS (cs := ?_) (ty := ?_) (n := 1) (c := 1) Rx (fun w => ?_) Nz (fun g1 => ?_); rotate_left 2
     focus (go_simp; rfl)
     simp only [qz]; refine rg_pushU rfl rfl hc1 rfl Ox Nz (fun u2 v2 hO2 => ?_); refine Zm ?_; refine rg_nil (ek_next ?_); refine wk_region [0, 0, 0] rfl Kx ?_; refine Zm ?_; refine rf_shr (c := 32) (q := 4294967296) rfl rfl rfl rfl rfl (by decide) ?_; refine Zm ?_; refine rg_nil (ek_block (ek_next ?_)); refine wk_region [0, 0, 0] rfl Kx ?_; refine Zm ?_; refine rf_add rfl rfl rfl rfl (wrap_ok Ox Ox) ?_; refine Zm ?_; refine rg_nil ?_
     have hdz' := hdz.snoc (y := (cy) % 4294967296) Ox Ox
     have hst := plus_step (t := cy) Ox heq.out Ox
     refine ek_roundF (1000000 - (i + 1)) Ox Kx ?_
     exact ⟨i + 1, (cy) / 4294967296, v2, u2, zs ++ [(cy) % 4294967296], rfl, rfl, rfl, by rfl, by rfl, hO2, hdz', (by simp; omega), (by simp; omega), Ox, Ox, hst, Ox⟩
    (try simp only [qd, ne_eq] at h5); simp only [qz]
    exfalso; omega
   (try simp only [qd, ne_eq] at h4); simp only [qz]
   exfalso; omega
  (try simp only [qd, ne_eq] at h2); simp only [qz]; refine rf_pick rfl rfl rfl ?_; refine Zm ?_; refine rf_pick rfl rfl rfl ?_; simp only [qz]; refine rg_nil (ek_next (wk_cond_t rfl (wk_skip (ek_next (wk_seq (wk_block (wk_seq (wk_seq ?_)))))))); refine wk_region [0, 0, 0, 0] rfl Kx ?_; refine Zm ?_; refine rf_len rfl rfl rfl Tryz.underlying79 ?_; simp only [qz]; refine rfb_lss rfl rfl rfl rfl ?_; intro x h6; cases x
  ·(try simp only [qd, ne_eq] at h6)
   simp only [qz]
   have dx := hd.at i
   have dy := hd2.at i
   have zx := dig_out (xs := xs) (k := i) Ox
   refine rg_nil (ek_next (wk_cond_f rfl (wk_skip (ek_next (wk_seq (wk_seq ?_)))))); refine wk_region [0, 0, 0, 0] rfl Kx ?_; refine Zm ?_; refine rf_len rfl rfl rfl Tryz.underlying79 ?_; simp only [qz]; refine rfb_lss rfl rfl rfl rfl ?_; intro x h7; cases x
   ·(try simp only [qd, ne_eq] at h7)
    simp only [qz]
    exfalso; omega
   (try simp only [qd, ne_eq] at h7); simp only [qz]
   obtain ⟨b2, off2, rfl, hlt2, hcell2⟩ := AS.openU hA2 Ox
   refine rg_nil (ek_next (wk_cond_t rfl ?_)); refine wk_region [0, 0, 0, 0, 0, 0, 0, 0] rfl Kx ?_; refine Zm ?_; refine rf_indexS (n := i) (sz := 1) (j := off2 + i * 1) rfl rfl rfl rfl Tryz.underlying79 Kx Ox Ox rfl ?_; simp only [qz]; refine rf_load rfl rfl rfl Tryz.underlying138 rfl (fun w hw => (by have := (Kn.cellB hw hlt2 (by simp) (off2 + i)).trans (hcell2 i Ox); simpa using this)) ?_; simp only [qz]; refine rf_conv rfl rfl rfl Tryz.underlying138 Tryz.underlying101 (wrap_okU Ox Ox) ?_
   simp only [qz]; refine rf_add rfl rfl rfl rfl (wrap_okU Ox Ox) ?_; refine Zm ?_; refine rg_nil (ek_next (wk_seq ?_)); refine wk_region [0, 0, 0, 1, 1, 0] rfl Kx ?_; refine Zm ?_; refine rf_conv rfl rfl rfl Tryz.underlying101 Tryz.underlying138 (IntKind.wrap_u32 _) ?_; simp only [qz]
   refine rg_newS (cs := ?_) (ty := ?_) (n := 1) (c := 1) Rx (fun w => ?_) Nz (fun g3 => ?_); rotate_left 2
   focus (go_simp; rfl)
   simp only [qz]; refine rg_pushU rfl rfl hc1 rfl Ox Nz (fun u4 v4 hO4 => ?_); refine Zm ?_; refine rg_nil (ek_next ?_); refine wk_region [0, 0, 0] rfl Kx ?_; refine Zm ?_; refine rf_shr (c := 32) (q := 4294967296) rfl rfl rfl rfl rfl (by decide) ?_; refine Zm ?_; refine rg_nil (ek_block (ek_next ?_)); refine wk_region [0, 0, 0] rfl Kx ?_; refine Zm ?_; refine rf_add rfl rfl rfl rfl (wrap_ok Ox Ox) ?_; refine Zm ?_; refine rg_nil ?_
   have hdz' := hdz.snoc (y := (cy + dig ys i) % 4294967296) Ox Ox
   have hst := plus_step (t := cy + dig ys i) Ox heq.out Ox
   refine ek_roundF (1000000 - (i + 1)) Ox Kx ?_
   exact ⟨i + 1, (cy + dig ys i) / 4294967296, v4, u4, zs ++ [(cy + dig ys i) % 4294967296], rfl, rfl, rfl, by rfl, by rfl, hO4, hdz', (by simp; omega), (by simp; omega), Ox, Ox, hst, Ox⟩
  (try simp only [qd, ne_eq] at h6); simp only [qz]
  exfalso; omega
 (try simp only [qd, ne_eq] at h1)
 refine Zm ?_
 refine rf_pick rfl rfl rfl ?_
 refine Zm ?_
 refine rf_pick rfl rfl rfl ?_
 simp only [qz]
 refine rg_nil (ek_next (wk_cond_t rfl (wk_skip (ek_next (wk_seq (wk_block (wk_seq (wk_seq ?_))))))))
 refine wk_region [0, 0, 0, 0] rfl Kx ?_
 refine Zm ?_
 refine rf_len rfl rfl rfl Tryz.underlying79 ?_
 simp only [qz]
 refine rfb_lss rfl rfl rfl rfl ?_
 intro x h8
 cases x
 ·(try simp only [qd, ne_eq] at h8)
  simp only [qz]
  exfalso; omega
 (try simp only [qd, ne_eq] at h8)
 simp only [qz]
 have dx := hd.at i
 have dy := hd2.at i
 obtain ⟨b, off, rfl, hlt, hcell⟩ := AS.openU hA Ox
 refine rg_nil (ek_next (wk_cond_t rfl ?_))
 refine wk_region [0, 0, 0, 0, 0, 0, 0, 0] rfl Kx ?_
 refine Zm ?_
 refine rf_indexS (n := i) (sz := 1) (j := off + i * 1) rfl rfl rfl rfl Tryz.underlying79 Kx Ox Ox rfl ?_
 simp only [qz]
 refine rf_load rfl rfl rfl Tryz.underlying138 rfl (fun w hw => (by have := (Kn.cellB hw hlt (by simp) (off + i)).trans (hcell i Ox); simpa using this)) ?_
 simp only [qz]
 refine rf_conv rfl rfl rfl Tryz.underlying138 Tryz.underlying101 (wrap_okU Ox Ox) ?_
 simp only [qz]
 refine rf_add rfl rfl rfl rfl (wrap_okU Ox Ox) ?_
 refine Zm ?_
 refine rg_nil (ek_next (wk_seq (wk_seq ?_)))
 refine wk_region [0, 0, 0, 0] rfl Kx ?_
 refine Zm ?_
 refine rf_len rfl rfl rfl Tryz.underlying79 ?_
 simp only [qz]
 refine rfb_lss rfl rfl rfl rfl ?_
 intro x h9
 cases x
 ·(try simp only [qd, ne_eq] at h9)
  simp only [qz]
  have zy := dig_out (xs := ys) (k := i) Ox
  refine rg_nil (ek_next (wk_cond_f rfl (wk_skip (ek_next (wk_seq ?_))))); refine wk_region [0, 0, 0, 1, 1, 0] rfl Kx ?_; refine Zm ?_; refine rf_conv rfl rfl rfl Tryz.underlying101 Tryz.underlying138 (IntKind.wrap_u32 _) ?_; simp only [qz]
  refine rg_newS (cs := ?_) (ty := ?_) (n := 1) (c := 1) Rx (fun w => ?_) Nz (fun g5 => ?_); rotate_left 2
  focus (go_simp; rfl)
  simp only [qz]; refine rg_pushU rfl rfl hc1 rfl Ox Nz (fun u6 v6 hO6 => ?_); refine Zm ?_; refine rg_nil (ek_next ?_); refine wk_region [0, 0, 0] rfl Kx ?_; refine Zm ?_; refine rf_shr (c := 32) (q := 4294967296) rfl rfl rfl rfl rfl (by decide) ?_; refine Zm ?_; refine rg_nil (ek_block (ek_next ?_)); refine wk_region [0, 0, 0] rfl Kx ?_; refine Zm ?_; refine rf_add rfl rfl rfl rfl (wrap_ok Ox Ox) ?_; refine Zm ?_; refine rg_nil ?_
  have hdz' := hdz.snoc (y := (cy + dig xs i) % 4294967296) Ox Ox
  have hst := plus_step (t := cy + dig xs i) Ox heq.out Ox
  refine ek_roundF (1000000 - (i + 1)) Ox Kx ?_
  exact ⟨i + 1, (cy + dig xs i) / 4294967296, v6, u6, zs ++ [(cy + dig xs i) % 4294967296], rfl, rfl, rfl, by rfl, by rfl, hO6, hdz', (by simp; omega), (by simp; omega), Ox, Ox, hst, Ox⟩
 (try simp only [qd, ne_eq] at h9)
 simp only [qz]
 obtain ⟨b2, off2, rfl, hlt2, hcell2⟩ := AS.openU hA2 Ox
 refine rg_nil (ek_next (wk_cond_t rfl ?_))
 refine wk_region [0, 0, 0, 0, 0, 0, 0, 0] rfl Kx ?_
 refine Zm ?_
 refine rf_indexS (n := i) (sz := 1) (j := off2 + i * 1) rfl rfl rfl rfl Tryz.underlying79 Kx Ox Ox rfl ?_
 simp only [qz]
 refine rf_load rfl rfl rfl Tryz.underlying138 rfl (fun w hw => (by have := (Kn.cellB hw hlt2 (by simp) (off2 + i)).trans (hcell2 i Ox); simpa using this)) ?_
 simp only [qz]
 refine rf_conv rfl rfl rfl Tryz.underlying138 Tryz.underlying101 (wrap_okU Ox Ox) ?_
 simp only [qz]
 refine rf_add rfl rfl rfl rfl (wrap_okU Ox Ox) ?_
 refine Zm ?_
 refine rg_nil (ek_next (wk_seq ?_))
 refine wk_region [0, 0, 0, 1, 1, 0] rfl Kx ?_
 refine Zm ?_
 refine rf_conv rfl rfl rfl Tryz.underlying101 Tryz.underlying138 (IntKind.wrap_u32 _) ?_
 simp only [qz]
 refine rg_newS (cs := ?_) (ty := ?_) (n := 1) (c := 1) Rx (fun w => ?_) Nz (fun g7 => ?_); rotate_left 2
 focus (go_simp; rfl)
 simp only [qz]
 refine rg_pushU rfl rfl hc1 rfl Ox Nz (fun u8 v8 hO8 => ?_)
 refine Zm ?_
 refine rg_nil (ek_next ?_)
 refine wk_region [0, 0, 0] rfl Kx ?_
 refine Zm ?_
 refine rf_shr (c := 32) (q := 4294967296) rfl rfl rfl rfl rfl (by decide) ?_
 refine Zm ?_
 refine rg_nil (ek_block (ek_next ?_))
 refine wk_region [0, 0, 0] rfl Kx ?_
 refine Zm ?_
 refine rf_add rfl rfl rfl rfl (wrap_ok Ox Ox) ?_
 refine Zm ?_
 refine rg_nil ?_
 have hdz' := hdz.snoc (y := (cy + dig xs i + dig ys i) % 4294967296) Ox Ox
 have hst := plus_step (t := cy + dig xs i + dig ys i) Ox heq.out Ox
 refine ek_roundF (1000000 - (i + 1)) Ox Kx ?_
 exact ⟨i + 1, (cy + dig xs i + dig ys i) / 4294967296, v8, u8, zs ++ [(cy + dig xs i + dig ys i) % 4294967296], rfl, rfl, rfl, by rfl, by rfl, hO8, hdz', (by simp; omega), (by simp; omega), Ox, Ox, hst, Ox⟩
theorem minus_end {x y bo : Int} {i : Nat} {zs : List Int} (h : dval zs = x - y + 4294967296 ^ i * bo) (hd : Dg zs) (hl : zs.length = i) (hge : y ≤ x) (h0 : 0 ≤ bo) (h1 : bo ≤ 1) : dval zs = x - y := by
 have := (dval_range hd).2
 rw [hl] at this
 rcases (by omega : bo = 0 ∨ bo = 1) with rfl | rfl
 ·omega
 omega
theorem wrap32_ok {n : Int} (h0 : 0 ≤ n) (h1 : n < 4294967296) : IntKind.u32.wrap n = n := by rw [IntKind.wrap_u32]; omega
theorem bminus_any (xs ys : List Int) (a a2 : Option Addr) (c c2 : Nat) (hd : Dg xs) (hd2 : Dg ys) (hl : xs.length ≤ 100000) (hl2 : ys.length ≤ 100000) (hge : dval ys ≤ dval xs) (hlen : ys.length ≤ xs.length) (w : World) (hA : AS w a (us xs)) (hA2 : AS w a2 (us ys)) : Calls Tryz.prog 102 #[.slice a xs.length c, .slice a2 ys.length c2] w fun e w' => RetD w (dval xs - dval ys).toNat e w' := by
 go_enter Tryz.func102, Tryz.ntmps102
 refine wk_start ?_
 refine wk_seq ?_
 refine wk_region [0] rfl Kx ?_
 refine Zm ?_
 refine rg_nil (ek_next (wk_seq ?_))
 refine wk_region [0] rfl Kx ?_
 refine Zm ?_
 refine rg_nil (ek_next (wk_seq ?_))
 refine wk_region [0] rfl Kx ?_
 refine Zm ?_
 refine rg_nil (ek_next (wk_seq (wk_seq ?_)))
 refine wk_region [0] rfl Kx ?_
 refine Zm ?_
 refine rg_nil (ek_next (wk_block ?_))
 refine wk_loopF [5, 6, 7, 8, 9, 10, 11, 12, 13, 14, 15, 16, 17, 18, 19, 20, 21, 22, 23, 24, 25, 26, 27, 28, 29, 30, 31, 32, 33, 34, 35, 36, 37, 38, 39, 40, 41] (fun mz f s => ∃ (i : Nat) (bo : Int) (v : Value) (u : List Blk) (zs : List Int), f 5 = v ∧ f 6 = .int .i64 bo ∧ f 7 = .int .i64 i ∧ s = (u ++ []) ∧ mz = xs.length - i ∧ OwnG DgE 138 u v zs ∧ Dg zs ∧ zs.length ≤ i ∧ i ≤ zs.length ∧ 0 ≤ bo ∧ bo ≤ 1 ∧ dval zs = dval (xs.take i) - dval (ys.take i) + 4294967296 ^ i * bo ∧ i ≤ xs.length) ((fun (i : Nat) (bo : Int) (v : Value) (u : List Blk) (zs : List Int) => xs.length - i) (0) (0) (.slice none 0 0) ([]) ([])) ?_ Kx ?_
 ·exact ⟨0, 0, .slice none 0 0, [], [], rfl, rfl, rfl, rfl, rfl, OwnG.nil, Dg.nil, by simp, by simp, by omega, by omega, by simp [dval], by omega⟩
 rintro mz f1 s ⟨i, bo, v, u, zs, hs1_5, hs1_6, hs1_7, rfl, hn, hc1, hc2, hc3, hc4, hc5, hc6, hc7, hc8⟩
 simp only [Act.putF, List.foldl_cons, List.foldl_nil, hs1_5, hs1_6, hs1_7, Act.put, Act.eval, q1, q2, q3, q4, q5, q6, q7, q8, q9, q10, q11, q12, q13, q14, q15, q16, q17, q18, Nat.reduceAdd, Bool.not_true, Bool.not_false]
 clear hs1_5 hs1_6 hs1_7
 have hO := hc1
 have hdz := hc2
 have heq := Lib.hid hc7
 clear hc2 hc7
 refine wk_seq (wk_seq ?_)
 refine wk_region [0, 0, 0, 0] rfl Kx ?_
 refine Zm ?_
 refine rf_len rfl rfl rfl Tryz.underlying79 ?_
 simp only [qz]
 refine rfb_lss rfl rfl rfl rfl ?_
 intro x h1
 cases x
 ·(try simp only [qd, ne_eq] at h1)
  simp only [qz]; refine rg_nil (ek_next (wk_cond_f rfl (wk_exit (ek_then_exit (ek_then_exit (ek_block_exit (ek_next (wk_seq ?_)))))))); refine wk_region [0, 1, 0] rfl Kx ?_; refine Zm ?_
  obtain ⟨a0, c0, rfl, hcap⟩ := hO.val
  apply (rg_or (X := fun v => ∃ m, m ≤ zs.length ∧ v = .slice a0 m c0 ∧ (∀ j, m ≤ j → dig zs j = 0) ∧ (m = 0 ∨ dig zs (m - 1) ≠ 0))) Rx Kx
  case hargs => exact Ax
  case h => exact fun w hw => (trimmed_any zs a0 c0 hdz hcap Ox w (hO.as' hw)).mono fun e w' ⟨m, h1, h2, h3, h4, h5⟩ => ⟨_, h2, ⟨m, h1, rfl, h3, h4⟩, h5⟩
  case hz => exact Nz
  rintro v ⟨m, hm1, rfl, hm2, hm3⟩
  refine Zm ?_; refine rg_nil (ek_next (wk_ret ?_)); refine ek_ret (fun w hw => ⟨rfl, _, res_t _ rfl, ?_⟩); (try simp only [qz])
  have e1 : dval zs = dval xs - dval ys := by
   have h1 := heq.out
   rw [List.take_of_length_le Ox, List.take_of_length_le (show ys.length ≤ i by omega)] at h1
   exact minus_end h1 hdz Ox hge hc5 hc6
  exact ⟨_, u, rfl, e1 ▸ SU.own hO m hm1 (trim_eq hdz hm1 hm2 hm3) rfl, hw.made (by simp)⟩
 (try simp only [qd, ne_eq] at h1)
 simp only [qz]
 have dx := hd.at i
 have dy := hd2.at i
 obtain ⟨b, off, rfl, hlt, hcell⟩ := AS.openU hA Ox
 refine rg_nil (ek_next (wk_cond_t rfl (wk_skip (ek_next (wk_seq (wk_block (wk_seq ?_)))))))
 refine wk_region [0, 0, 0, 0, 0, 0, 0, 0] rfl Kx ?_
 refine Zm ?_
 refine rf_indexS (n := i) (sz := 1) (j := off + i * 1) rfl rfl rfl rfl Tryz.underlying79 Kx Ox Ox rfl ?_
 simp only [qz]
 refine rf_load rfl rfl rfl Tryz.underlying138 rfl (fun w hw => (by have := (Kn.cellB hw hlt (by simp) (off + i)).trans (hcell i Ox); simpa using this)) ?_
 simp only [qz]
 refine rf_conv rfl rfl rfl Tryz.underlying138 Tryz.underlying2 (wrap_ok Ox Ox) ?_
 refine Zm ?_
 refine rf_sub rfl rfl rfl rfl (wrap_ok Ox Ox) ?_
 refine Zm ?_
 refine rg_nil (ek_next (wk_seq (wk_seq ?_)))
 refine wk_region [0, 0, 0, 0] rfl Kx ?_
 refine Zm ?_
 refine rf_len rfl rfl rfl Tryz.underlying79 ?_
 simp only [qz]
 refine rfb_lss rfl rfl rfl rfl ?_
 intro x h2
 cases x
 ·(try simp only [qd, ne_eq] at h2)
  simp only [qz]
  have zy := dig_out (xs := ys) (k := i) Ox
  refine rg_nil (ek_next (wk_cond_f rfl (wk_skip (ek_next (wk_seq ?_))))); refine wk_region [0] rfl Kx ?_; refine Zm ?_; refine rg_nil (ek_next (wk_seq (wk_seq ?_))); refine wk_region [0, 0] rfl Kx ?_; refine Zm ?_; refine rfb_lss rfl rfl rfl rfl ?_; intro x h3; cases x
  ·(try simp only [qd, ne_eq] at h3)
   simp only [qz]; refine rg_nil (ek_next (wk_cond_f rfl (wk_skip (ek_next ?_)))); refine wk_region [0, 0, 0, 1, 1, 0] rfl Kx ?_; refine Zm ?_; refine rf_conv rfl rfl rfl Tryz.underlying2 Tryz.underlying138 (wrap32_ok Ox Ox) ?_; simp only [qz]
   refine rg_newS (cs := ?_) (ty := ?_) (n := 1) (c := 1) Rx (fun w => ?_) Nz (fun g1 => ?_); rotate_left 2
   focus (go_simp; rfl)
   simp only [qz]; refine rg_pushU rfl rfl hc1 rfl Ox Nz (fun u2 v2 hO2 => ?_); refine Zm ?_; refine rg_nil (ek_block (ek_next ?_)); refine wk_region [0, 0, 0] rfl Kx ?_; refine Zm ?_; refine rf_add rfl rfl rfl rfl (wrap_ok Ox Ox) ?_; refine Zm ?_; refine rg_nil ?_
   have hdz' := hdz.snoc (y := dig xs i - bo) Ox Ox
   have hst := minus_step (t := dig xs i - bo) Ox heq.out Ox 0
   rw [show dig xs i - bo + 4294967296 * 0 = dig xs i - bo by omega] at hst; refine ek_roundF (xs.length - (i + 1)) Ox Kx ?_
   exact ⟨i + 1, 0, v2, u2, zs ++ [dig xs i - bo], rfl, rfl, rfl, by rfl, by rfl, hO2, hdz', (by simp; omega), (by simp; omega), Ox, Ox, hst, Ox⟩
  (try simp only [qd, ne_eq] at h3); simp only [qz]; refine rg_nil (ek_next (wk_cond_t rfl (wk_seq ?_))); refine wk_region [0, 0, 0] rfl Kx ?_; refine Zm ?_; refine rf_add rfl rfl rfl rfl (wrap_ok Ox Ox) ?_; refine Zm ?_; refine rg_nil (ek_next ?_); refine wk_region [0] rfl Kx ?_; refine Zm ?_; refine rg_nil (ek_next ?_); refine wk_region [0, 0, 0, 1, 1, 0] rfl Kx ?_; refine Zm ?_; refine rf_conv rfl rfl rfl Tryz.underlying2 Tryz.underlying138 (wrap32_ok Ox Ox) ?_
  simp only [qz]
  refine rg_newS (cs := ?_) (ty := ?_) (n := 1) (c := 1) Rx (fun w => ?_) Nz (fun g3 => ?_); rotate_left 2
  focus (go_simp; rfl)
  simp only [qz]; refine rg_pushU rfl rfl hc1 rfl Ox Nz (fun u4 v4 hO4 => ?_); refine Zm ?_; refine rg_nil (ek_block (ek_next ?_)); refine wk_region [0, 0, 0] rfl Kx ?_; refine Zm ?_; refine rf_add rfl rfl rfl rfl (wrap_ok Ox Ox) ?_; refine Zm ?_; refine rg_nil ?_
  have hdz' := hdz.snoc (y := dig xs i - bo + 4294967296) Ox Ox
  have hst := minus_step (t := dig xs i - bo) Ox heq.out Ox 1
  rw [show dig xs i - bo + 4294967296 * 1 = dig xs i - bo + 4294967296 by omega] at hst; refine ek_roundF (xs.length - (i + 1)) Ox Kx ?_
  exact ⟨i + 1, 1, v4, u4, zs ++ [dig xs i - bo + 4294967296], rfl, rfl, rfl, by rfl, by rfl, hO4, hdz', (by simp; omega), (by simp; omega), Ox, Ox, hst, Ox⟩
 (try simp only [qd, ne_eq] at h2)
 simp only [qz]
 obtain ⟨b2, off2, rfl, hlt2, hcell2⟩ := AS.openU hA2 Ox
 refine rg_nil (ek_next (wk_cond_t rfl ?_))
 refine wk_region [0, 0, 0, 0, 0, 0, 0, 0] rfl Kx ?_
 refine Zm ?_
 refine rf_indexS (n := i) (sz := 1) (j := off2 + i * 1) rfl rfl rfl rfl Tryz.underlying79 Kx Ox Ox rfl ?_
 simp only [qz]
 refine rf_load rfl rfl rfl Tryz.underlying138 rfl (fun w hw => (by have := (Kn.cellB hw hlt2 (by simp) (off2 + i)).trans (hcell2 i Ox); simpa using this)) ?_
 simp only [qz]
 refine rf_conv rfl rfl rfl Tryz.underlying138 Tryz.underlying2 (wrap_ok Ox Ox) ?_
 simp only [qz]
 refine rf_sub rfl rfl rfl rfl (wrap_ok Ox Ox) ?_
 refine Zm ?_
 refine rg_nil (ek_next (wk_seq ?_))
 refine wk_region [0] rfl Kx ?_
 refine Zm ?_
 refine rg_nil (ek_next (wk_seq (wk_seq ?_)))
 refine wk_region [0, 0] rfl Kx ?_
 refine Zm ?_
 refine rfb_lss rfl rfl rfl rfl ?_
 intro x h4
 cases x
 ·(try simp only [qd, ne_eq] at h4)
  simp only [qz]; refine rg_nil (ek_next (wk_cond_f rfl (wk_skip (ek_next ?_)))); refine wk_region [0, 0, 0, 1, 1, 0] rfl Kx ?_; refine Zm ?_; refine rf_conv rfl rfl rfl Tryz.underlying2 Tryz.underlying138 (wrap32_ok Ox Ox) ?_; simp only [qz]
  refine rg_newS (cs := ?_) (ty := ?_) (n := 1) (c := 1) Rx (fun w => ?_) Nz (fun g5 => ?_); rotate_left 2
  focus (go_simp; rfl)
  simp only [qz]; refine rg_pushU rfl rfl hc1 rfl Ox Nz (fun u6 v6 hO6 => ?_); refine Zm ?_; refine rg_nil (ek_block (ek_next ?_)); refine wk_region [0, 0, 0] rfl Kx ?_; refine Zm ?_; refine rf_add rfl rfl rfl rfl (wrap_ok Ox Ox) ?_; refine Zm ?_; refine rg_nil ?_
  have hdz' := hdz.snoc (y := dig xs i - bo - dig ys i) Ox Ox
  have hst := minus_step (t := dig xs i - bo - dig ys i) Ox heq.out Ox 0
  rw [show dig xs i - bo - dig ys i + 4294967296 * 0 = dig xs i - bo - dig ys i by omega] at hst; refine ek_roundF (xs.length - (i + 1)) Ox Kx ?_
  exact ⟨i + 1, 0, v6, u6, zs ++ [dig xs i - bo - dig ys i], rfl, rfl, rfl, by rfl, by rfl, hO6, hdz', (by simp; omega), (by simp; omega), Ox, Ox, hst, Ox⟩
 (try simp only [qd, ne_eq] at h4)
 simp only [qz]
 refine rg_nil (ek_next (wk_cond_t rfl (wk_seq ?_)))
 refine wk_region [0, 0, 0] rfl Kx ?_
 refine Zm ?_
 refine rf_add rfl rfl rfl rfl (wrap_ok Ox Ox) ?_
 refine Zm ?_
 refine rg_nil (ek_next ?_)
 refine wk_region [0] rfl Kx ?_
 refine Zm ?_
 refine rg_nil (ek_next ?_)
 refine wk_region [0, 0, 0, 1, 1, 0] rfl Kx ?_
 refine Zm ?_
 refine rf_conv rfl rfl rfl Tryz.underlying2 Tryz.underlying138 (wrap32_ok Ox Ox) ?_
 simp only [qz]
 refine rg_newS (cs := ?_) (ty := ?_) (n := 1) (c := 1) Rx (fun w => ?_) Nz (fun g7 => ?_); rotate_left 2
 focus (go_simp; rfl)
 simp only [qz]
 refine rg_pushU rfl rfl hc1 rfl Ox Nz (fun u8 v8 hO8 => ?_)
 refine Zm ?_
 refine rg_nil (ek_block (ek_next ?_))
 refine wk_region [0, 0, 0] rfl Kx ?_
 refine Zm ?_
 refine rf_add rfl rfl rfl rfl (wrap_ok Ox Ox) ?_
 refine Zm ?_
 refine rg_nil ?_
 have hdz' := hdz.snoc (y := dig xs i - bo - dig ys i + 4294967296) Ox Ox
 have hst := minus_step (t := dig xs i - bo - dig ys i) Ox heq.out Ox 1
 rw [show dig xs i - bo - dig ys i + 4294967296 * 1 = dig xs i - bo - dig ys i + 4294967296 by omega] at hst
 refine ek_roundF (xs.length - (i + 1)) Ox Kx ?_
 exact ⟨i + 1, 1, v8, u8, zs ++ [dig xs i - bo - dig ys i + 4294967296], rfl, rfl, rfl, by rfl, by rfl, hO8, hdz', (by simp; omega), (by simp; omega), Ox, Ox, hst, Ox⟩
def ordN (m n : Nat) : Int := if m < n then -1 else if m = n then 0 else 1
theorem ordN_lt {m n : Nat} (h : m < n) : ordN m n = -1 := by unfold ordN; rw [if_pos h]
theorem ordN_eq {m n : Nat} (h : m = n) : ordN m n = 0 := by unfold ordN; rw [if_neg Ox, if_pos h]
theorem ordN_gt {m n : Nat} (h : n < m) : ordN m n = 1 := by unfold ordN; rw [if_neg Ox, if_neg Ox]
theorem digs_inj {m n : Nat} (h : digs m = digs n) : m = n := by
 have h1 := dval_digs m
 rw [h, dval_digs] at h1
 omega
theorem of_dig {m n i : Nat} (hi : i < (digs m).length) (hl : (digs m).length = (digs n).length) (hj : ∀ j, i < j → dig (digs m) j = dig (digs n) j) (h : dig (digs m) i < dig (digs n) i) : m < n := by
 have := lt_of_dig (digs_dg m) (digs_dg n) hi hl hj h
 rw [dval_digs, dval_digs] at this
 omega
theorem border_any (m n : Nat) (a a2 : Option Addr) (c c2 : Nat) (hl : (digs m).length ≤ 100000) (hl2 : (digs n).length ≤ 100000) (w : World) (hA : AS w a (us (digs m))) (hA2 : AS w a2 (us (digs n))) : Calls Tryz.prog 101 #[.slice a (digs m).length c, .slice a2 (digs n).length c2] w fun e w' => e = .returned (.int .i64 (ordN m n)) ∧ Below w.heap.size w w' := by
 go_enter Tryz.func101, Tryz.ntmps101
 refine wk_start ?_
 refine wk_seq ?_
 refine wk_region [0] rfl Kx ?_
 refine Zm ?_
 refine rg_nil (ek_next (wk_seq (wk_seq ?_)))
 refine wk_region [0, 0, 0, 0, 0] rfl Kx ?_
 refine Zm ?_
 refine rf_len rfl rfl rfl Tryz.underlying79 ?_
 refine Zm ?_
 refine rf_len rfl rfl rfl Tryz.underlying79 ?_
 simp only [qz]
 refine rfb_neq rfl rfl rfl rfl ?_
 intro x h1
 cases x
 ·(try simp only [qd, ne_eq] at h1)
  simp only [qz]; refine rg_nil (ek_next (wk_cond_f rfl (wk_skip (ek_next (wk_seq (wk_seq ?_)))))); refine wk_region [0, 0, 0, 0] rfl Kx ?_; refine Zm ?_; refine rf_len rfl rfl rfl Tryz.underlying79 ?_; simp only [qz]; refine rf_sub rfl rfl rfl rfl (wrap_ok Ox Ox) ?_; refine Zm ?_; refine rg_nil (ek_next (wk_block ?_)); refine wk_loopF [4, 5, 19, 20, 21, 22, 23, 24, 25, 26, 27, 28, 29, 30, 31, 32, 33, 34, 35, 36, 37, 38, 39, 40] (fun mz f s => ∃ (k : Nat) (j : Int), f 5 = .int .i64 j ∧ s = [] ∧ mz = k ∧ k ≤ (digs m).length ∧ (∀ t, k ≤ t → dig (digs m) t = dig (digs n) t) ∧ j + 1 ≤ k ∧ (k : Int) ≤ j + 1) ((fun (k : Nat) (j : Int) => k) ((digs m).length) (((digs m).length : Int) - 1)) ?_ Kx ?_
  ·exact ⟨(digs m).length, ((digs m).length : Int) - 1, rfl, rfl, rfl, by omega, fun t ht => by rw [dig_out Ox, dig_out Ox], by omega, by omega⟩
  rintro mz f1 s ⟨k, j, hs1_5, rfl, hn, hc1, hc2, hc3, hc4⟩
  simp only [Act.putF, List.foldl_cons, List.foldl_nil, hs1_5, Act.put, Act.eval, q1, q2, q3, q4, q5, q6, q7, q8, q9, q10, q11, q12, q13, q14, q15, q16, q17, q18, Nat.reduceAdd, Bool.not_true, Bool.not_false]; clear hs1_5; refine wk_seq (wk_seq ?_); refine wk_region [0, 0] rfl Kx ?_; refine Zm ?_; refine rfb_geq rfl rfl rfl rfl ?_; intro x h2; cases x
  ·(try simp only [qd, ne_eq] at h2)
   simp only [qz]; refine rg_nil (ek_next (wk_cond_f rfl (wk_exit (ek_then_exit (ek_then_exit (ek_block_exit (ek_next (wk_seq ?_)))))))); refine wk_region [0] rfl Kx ?_; refine Zm ?_; refine rg_nil (ek_next (wk_ret ?_)); refine ek_ret (fun w hw => ⟨rfl, _, res_t _ rfl, ?_⟩); (try simp only [qz])
   exact ⟨by rw [ordN_eq (digs_inj (eq_of_dig Ox (fun j => hc2 j Ox)))], hw.below⟩
  (try simp only [qd, ne_eq] at h2); simp only [qz]
  obtain ⟨b, off, rfl, hlt, hcell⟩ := AS.openU hA Ox
  obtain ⟨b2, off2, rfl, hlt2, hcell2⟩ := AS.openU hA2 Ox
  refine rg_nil (ek_next (wk_cond_t rfl (wk_skip (ek_next (wk_seq (wk_block (wk_seq ?_))))))); refine wk_draws _ _ [(0, 0), (1, 0), (2, 0), (3, 0), (4, 0), (5, 0), (6, 0), (7, 0), (8, 0)] [] Kx Kx (fun c d v a w h => by cases d <;> exact h) (sn) (fun e => by first | exact absurd e (by decide) | rfl) ?_; simp only [List.map_cons, List.map_nil, List.getD_cons_zero, List.getD_cons_succ]; refine Zm ?_; refine rf_indexS (n := k - 1) (sz := 1) (j := off + (k - 1) * 1) rfl rfl rfl rfl Tryz.underlying79 Kx Ox Ox rfl ?_
  simp only [qz]; refine rf_load rfl rfl rfl Tryz.underlying138 rfl (fun w hw => (by have := (Kn.cellB hw hlt (by simp) (off + (k - 1))).trans (hcell (k - 1) Ox); simpa using this)) ?_; refine Zm ?_; refine rf_indexS (n := k - 1) (sz := 1) (j := off2 + (k - 1) * 1) rfl rfl rfl rfl Tryz.underlying79 Kx Ox Ox rfl ?_; simp only [qz]; refine rf_load rfl rfl rfl Tryz.underlying138 rfl (fun w hw => (by have := (Kn.cellB hw hlt2 (by simp) (off2 + (k - 1))).trans (hcell2 (k - 1) Ox); simpa using this)) ?_
  simp only [qz]; refine rfb_neq rfl rfl rfl rfl ?_; intro x h3; cases x
  ·(try simp only [qd, ne_eq] at h3)
   simp only [qz]; refine rg_nil (ek_next (wk_cond_f rfl (wk_skip (ek_block (ek_next ?_))))); refine wk_region [0, 0, 0] rfl Kx ?_; refine Zm ?_; refine rf_sub rfl rfl rfl rfl (wrap_ok Ox Ox) ?_; refine Zm ?_; refine rg_nil ?_; refine ek_roundF (k - 1) Ox Kx ?_
   exact ⟨k - 1, j - 1, rfl, by rfl, by rfl, Ox, fun t ht => if he : t = k - 1 then (by subst he; omega) else hc2 t Ox, Ox, Ox⟩
  (try simp only [qd, ne_eq] at h3); simp only [qz]; refine rg_nil (ek_next (wk_cond_t rfl (wk_seq (wk_seq ?_)))); refine wk_draws _ _ [(0, 0), (1, 0), (2, 0), (3, 0), (4, 0), (5, 0), (6, 0), (7, 0), (8, 0)] [] Kx Kx (fun c d v a w h => by cases d <;> exact h) (sn) (fun e => by first | exact absurd e (by decide) | rfl) ?_; simp only [List.map_cons, List.map_nil, List.getD_cons_zero, List.getD_cons_succ]; refine Zm ?_
  refine rf_indexS (n := k - 1) (sz := 1) (j := off + (k - 1) * 1) rfl rfl rfl rfl Tryz.underlying79 Kx Ox Ox rfl ?_; simp only [qz]; refine rf_load rfl rfl rfl Tryz.underlying138 rfl (fun w hw => (by have := (Kn.cellB hw hlt (by simp) (off + (k - 1))).trans (hcell (k - 1) Ox); simpa using this)) ?_; refine Zm ?_; refine rf_indexS (n := k - 1) (sz := 1) (j := off2 + (k - 1) * 1) rfl rfl rfl rfl Tryz.underlying79 Kx Ox Ox rfl ?_
  simp only [qz]; refine rf_load rfl rfl rfl Tryz.underlying138 rfl (fun w hw => (by have := (Kn.cellB hw hlt2 (by simp) (off2 + (k - 1))).trans (hcell2 (k - 1) Ox); simpa using this)) ?_; simp only [qz]; refine rfb_lss rfl rfl rfl rfl ?_; intro x h4; cases x
  ·(try simp only [qd, ne_eq] at h4)
   simp only [qz]; refine rg_nil (ek_next (wk_cond_f rfl (wk_skip (ek_next (wk_seq ?_))))); refine wk_region [0] rfl Kx ?_; refine Zm ?_; refine rg_nil (ek_next (wk_ret (ek_block_ret (ek_then_ret (ek_then_ret (ek_block_ret (ek_then_ret ?_))))))); refine ek_ret (fun w hw => ⟨rfl, _, res_t _ rfl, ?_⟩); (try simp only [qz])
   exact ⟨by rw [ordN_gt (of_dig (i := k - 1) Ox Ox (fun j hj => (hc2 j Ox).symm) Ox)], hw.below⟩
  (try simp only [qd, ne_eq] at h4); simp only [qz]; refine rg_nil (ek_next (wk_cond_t rfl (wk_seq ?_))); refine wk_region [0] rfl Kx ?_; refine Zm ?_; refine rg_nil (ek_next (wk_ret (ek_then_ret (ek_block_ret (ek_then_ret (ek_then_ret (ek_block_ret (ek_then_ret ?_)))))))); refine ek_ret (fun w hw => ⟨rfl, _, res_t _ rfl, ?_⟩); (try simp only [qz])
  exact ⟨by rw [ordN_lt (of_dig (i := k - 1) Ox Ox (fun j hj => hc2 j Ox) Ox)], hw.below⟩
 (try simp only [qd, ne_eq] at h1)
 simp only [qz]
 refine rg_nil (ek_next (wk_cond_t rfl (wk_seq (wk_seq ?_))))
 refine wk_region [0, 0, 0, 0, 0] rfl Kx ?_
 refine Zm ?_
 refine rf_len rfl rfl rfl Tryz.underlying79 ?_
 refine Zm ?_
 refine rf_len rfl rfl rfl Tryz.underlying79 ?_
 simp only [qz]
 refine rfb_lss rfl rfl rfl rfl ?_
 intro x h5
 cases x
 ·(try simp only [qd, ne_eq] at h5)
  simp only [qz]; refine rg_nil (ek_next (wk_cond_f rfl (wk_skip (ek_next (wk_seq ?_))))); refine wk_region [0] rfl Kx ?_; refine Zm ?_; refine rg_nil (ek_next (wk_ret (ek_then_ret ?_))); refine ek_ret (fun w hw => ⟨rfl, _, res_t _ rfl, ?_⟩); (try simp only [qz])
  exact ⟨by rw [ordN_gt (digs_lt_of_len Ox)], hw.below⟩
 (try simp only [qd, ne_eq] at h5)
 simp only [qz]
 refine rg_nil (ek_next (wk_cond_t rfl (wk_seq ?_)))
 refine wk_region [0] rfl Kx ?_
 refine Zm ?_
 refine rg_nil (ek_next (wk_ret (ek_then_ret (ek_then_ret ?_))))
 refine ek_ret (fun w hw => ⟨rfl, _, res_t _ rfl, ?_⟩)
 (try simp only [qz])
 exact ⟨by rw [ordN_lt (digs_lt_of_len Ox)], hw.below⟩
theorem push_digs {t : Int} {zs : List Int} (h : 0 < t) : (zs ++ [t % 4294967296]) ++ digs (t / 4294967296).toNat = zs ++ digs t.toNat := by
 rw [List.append_assoc, digs_pos (n := t.toNat) Ox]
 have e1 : ((t.toNat % 4294967296 : Nat) : Int) = t % 4294967296 := by omega
 have e2 : t.toNat / 4294967296 = (t / 4294967296).toNat := by omega
 rw [e1, e2]
 rfl
theorem bigOf_any (n : Int) (h0 : -9223372036854775808 ≤ n) (h1 : n ≤ 9223372036854775807) (w : World) : Calls Tryz.prog 79 #[.int .i64 n] w fun e w' => RetB w n e w' := by
 go_enter Tryz.func79, Tryz.ntmps79
 refine wk_start ?_
 refine wk_seq ?_
 refine wk_region [1] rfl Kx ?_
 simp only [qy]
 refine Rgn fun g1 => ?_
 simp only [qz]
 refine rg_nil (ek_next (wk_seq ?_))
 refine wk_region [0, 0, 0, 1, 1] rfl Kx ?_
 refine Zm ?_
 refine rf_lss rfl rfl rfl rfl rfl ?_
 simp only [qz]
 refine rf_build (cs := fun a => #[a.eval (.tmp 6), .slice none 0 0]) rfl rfl Kx ?_
 simp only [qz]
 refine Rgn fun g2 => ?_
 simp only [qz]
 refine rf_storeR (n := 2) rfl rfl Kx rfl rfl (UpdR.here _ _ _ Nl) Nz ?_
 simp only [qz, Nat.reduceAdd]
 refine rg_nil (ek_next (wk_seq ?_))
 refine wk_region [0, 0, 0] rfl Kx ?_
 refine Zm ?_
 refine rf_conv rfl rfl rfl Tryz.underlying3 Tryz.underlying101 (IntKind.wrap_u64 _) ?_
 refine Zm ?_
 refine rg_nil (ek_next (wk_seq (wk_seq ?_)))
 refine wk_region [0, 0] rfl Kx ?_
 simp only [qy]
 refine rf_field (n := 0) (j := 0) rfl rfl rfl Tryz.underlying81 rfl Kx rfl ?_
 simp only [qz]
 refine rf_load rfl rfl rfl Tryz.underlying4 rfl (fun w hw => (Kn.hd0 hw).at rfl) ?_
 simp only [qz]
 refine rg_nil (ek_next ?_)
 refine wk_cond (t := _) rfl (fun h1 => ?_) (fun h1 => ?_)
 ·(try simp only [qd] at h1)
  refine wk_region [0, 0, 0] rfl Kx ?_; refine Zm ?_; refine rf_neg rfl rfl rfl (IntKind.wrap_u64 _) ?_; refine Zm ?_; refine rg_nil (ek_next (wk_seq (wk_block ?_))); refine wk_loopF [4, 14, 15, 16, 17, 18, 19, 20, 21, 22, 23, 24] (fun mz f s => ∃ (t : Int) (va : Option Addr) (vl vc : Nat) (u : List Blk) (zs : List Int), f 4 = .int .u64 t ∧ s = (u ++ ((g2, .cells #[.bool (decide (n < 0)), .slice va vl vc] 81) :: ((g1, .cells #[.bool false, .slice none 0 0] 81) :: []))) ∧ mz = t.toNat ∧ OwnG DgE 138 u (.slice va vl vc) zs ∧ zs ++ digs t.toNat = digs n.natAbs ∧ 0 ≤ t ∧ t < 18446744073709551616) ((fun (t : Int) (va : Option Addr) (vl vc : Nat) (u : List Blk) (zs : List Int) => t.toNat) ((-(n % 18446744073709551616)) % 18446744073709551616) (none) (0) (0) ([]) ([])) ?_ Kx ?_
  ·exact ⟨(-(n % 18446744073709551616)) % 18446744073709551616, none, 0, 0, [], [], rfl, rfl, rfl, OwnG.nil, (by simp; congr 1; omega), Ox, Ox⟩
  rintro mz f1 s ⟨t, va, vl, vc, u, zs, hs1_4, rfl, hn, hc1, hc2, hc3, hc4⟩
  simp only [Act.putF, List.foldl_cons, List.foldl_nil, hs1_4, Act.put, Act.eval, q1, q2, q3, q4, q5, q6, q7, q8, q9, q10, q11, q12, q13, q14, q15, q16, q17, q18, Nat.reduceAdd, Bool.not_true, Bool.not_false]; clear hs1_4
  have hO := hc1
  have hzl : zs.length ≤ 2 := by (have h1 := congrArg List.length hc2; rw [List.length_append] at h1; have h2 := digs_len_le (n := n.natAbs) (L := 2) Ox; omega)
  have heq := Lib.hid hc2
  clear hc2; refine wk_seq (wk_seq ?_); refine wk_region [0, 0] rfl Kx ?_; refine Zm ?_; refine rfb_gtr rfl rfl rfl rfl ?_; intro x h2; cases x
  ·(try simp only [qd, ne_eq] at h2)
   simp only [qz]; refine rg_nil (ek_next (wk_cond_f rfl (wk_exit (ek_then_exit (ek_then_exit (ek_block_exit (ek_next (wk_seq ?_)))))))); refine wk_region [0, 1] rfl Kx ?_; simp only [qy]; refine rf_loadR (n := 2) rfl rfl rfl Tryz.underlying81 rfl Kx (fun w hw => Kn.hd0 (Kn.tlU hw)) rfl rfl ?_; simp only [qz]; refine rf_storeR (n := 2) rfl rfl Kx rfl rfl (UpdR.app _ (UpdR.there _ (UpdR.here _ _ _ Nl))) Nz ?_; simp only [qz, Nat.reduceAdd]
   refine rg_nil (ek_next (wk_ret ?_)); refine ek_ret (fun w hw => ⟨rfl, _, run_results1 rfl rfl (Kn.hd0 (Kn.tl (Kn.tlU hw))) Tryz.underlying81 rfl Kx, ?_⟩); (try simp only [qz])
   have ht : t = 0 := by omega
   subst ht
   have e1 : zs = digs n.natAbs := by (have := heq.out; rwa [show (0 : Int).toNat = 0 from rfl, digs_zero, List.append_nil] at this)
   subst e1
   obtain ⟨a0, c0, e0, hcap⟩ := hO.val
   injection e0 with e1 e2 e3
   subst e1 e2 e3
   exact ⟨_, u, rfl, ⟨.slice va _ vc, rfl, SU.own hO _ (Nat.le_refl _) (List.take_length ..) rfl⟩, hw.made (by simp)⟩
  (try simp only [qd, ne_eq] at h2); simp only [qz]; refine rg_nil (ek_next (wk_cond_t rfl (wk_skip (ek_next (wk_block (wk_seq ?_)))))); refine wk_region [0, 0, 0, 0, 1, 1, 0, 1] rfl Kx ?_; simp only [qy]; refine rf_field (n := 0) (j := 1) rfl rfl rfl Tryz.underlying81 rfl Kx rfl ?_; simp only [qz]; refine rf_load rfl rfl rfl Tryz.underlying79 rfl (fun w hw => (Kn.hd0 (Kn.tlU hw)).at rfl) ?_; refine Zm ?_; refine rf_conv rfl rfl rfl Tryz.underlying101 Tryz.underlying138 (IntKind.wrap_u32 _) ?_
  simp only [qz]
  refine rg_newS (cs := ?_) (ty := ?_) (n := 1) (c := 1) Rx (fun w => ?_) Nz (fun g3 => ?_); rotate_left 2
  focus (go_simp; rfl)
  simp only [qz]; refine rg_pushU rfl rfl hc1 rfl Ox Nz (fun u4 v4 hO4 => ?_); simp only [qz]
  obtain ⟨va4, vc4, rfl, hcap4⟩ := hO4.val
  refine rf_field (n := 0) (j := 1) rfl rfl rfl Tryz.underlying81 rfl Kx rfl ?_; simp only [qz]; refine rf_store rfl rfl Kx rfl rfl (UpdR.app _ (UpdR.here _ _ _ Nl)) Nz ?_; simp only [qz]; refine rg_nil (ek_next ?_); refine wk_region [0, 0, 0] rfl Kx ?_; refine Zm ?_; refine rf_shr (c := 32) (q := 4294967296) rfl rfl rfl rfl rfl (by decide) ?_; refine Zm ?_; refine rg_nil (ek_block ?_)
  have hst : (zs ++ [t % 4294967296]) ++ digs (t / 4294967296).toNat = digs n.natAbs := by rw [← heq.out, push_digs Ox]
  refine ek_roundF ((t / 4294967296).toNat) (Ox) Kx ?_
  exact ⟨t / 4294967296, va4, _, vc4, u4, zs ++ [t % 4294967296], rfl, by rfl, by rfl, hO4, hst, Ox, Ox⟩
 (try simp only [qd] at h1)
 refine wk_skip (ek_next (wk_seq (wk_block ?_)))
 refine wk_loopF [4, 14, 15, 16, 17, 18, 19, 20, 21, 22, 23, 24] (fun mz f s => ∃ (t : Int) (va : Option Addr) (vl vc : Nat) (u : List Blk) (zs : List Int), f 4 = .int .u64 t ∧ s = (u ++ ((g2, .cells #[.bool (decide (n < 0)), .slice va vl vc] 81) :: ((g1, .cells #[.bool false, .slice none 0 0] 81) :: []))) ∧ mz = t.toNat ∧ OwnG DgE 138 u (.slice va vl vc) zs ∧ zs ++ digs t.toNat = digs n.natAbs ∧ 0 ≤ t ∧ t < 18446744073709551616) ((fun (t : Int) (va : Option Addr) (vl vc : Nat) (u : List Blk) (zs : List Int) => t.toNat) (n % 18446744073709551616) (none) (0) (0) ([]) ([])) ?_ Kx ?_
 ·exact ⟨n % 18446744073709551616, none, 0, 0, [], [], rfl, rfl, rfl, OwnG.nil, (by simp; congr 1; omega), Ox, Ox⟩
 rintro mz f1 s ⟨t, va, vl, vc, u, zs, hs1_4, rfl, hn, hc1, hc2, hc3, hc4⟩
 simp only [Act.putF, List.foldl_cons, List.foldl_nil, hs1_4, Act.put, Act.eval, q1, q2, q3, q4, q5, q6, q7, q8, q9, q10, q11, q12, q13, q14, q15, q16, q17, q18, Nat.reduceAdd, Bool.not_true, Bool.not_false]
 clear hs1_4
 have hO := hc1
 have hzl : zs.length ≤ 2 := by (have h1 := congrArg List.length hc2; rw [List.length_append] at h1; have h2 := digs_len_le (n := n.natAbs) (L := 2) Ox; omega)
 have heq := Lib.hid hc2
 clear hc2
 refine wk_seq (wk_seq ?_)
 refine wk_region [0, 0] rfl Kx ?_
 refine Zm ?_
 refine rfb_gtr rfl rfl rfl rfl ?_
 intro x h3
 cases x
 ·(try simp only [qd, ne_eq] at h3)
  simp only [qz]; refine rg_nil (ek_next (wk_cond_f rfl (wk_exit (ek_then_exit (ek_then_exit (ek_block_exit (ek_next (wk_seq ?_)))))))); refine wk_region [0, 1] rfl Kx ?_; simp only [qy]; refine rf_loadR (n := 2) rfl rfl rfl Tryz.underlying81 rfl Kx (fun w hw => Kn.hd0 (Kn.tlU hw)) rfl rfl ?_; simp only [qz]; refine rf_storeR (n := 2) rfl rfl Kx rfl rfl (UpdR.app _ (UpdR.there _ (UpdR.here _ _ _ Nl))) Nz ?_; simp only [qz, Nat.reduceAdd]
  refine rg_nil (ek_next (wk_ret ?_)); refine ek_ret (fun w hw => ⟨rfl, _, run_results1 rfl rfl (Kn.hd0 (Kn.tl (Kn.tlU hw))) Tryz.underlying81 rfl Kx, ?_⟩); (try simp only [qz])
  have ht : t = 0 := by omega
  subst ht
  have e1 : zs = digs n.natAbs := by (have := heq.out; rwa [show (0 : Int).toNat = 0 from rfl, digs_zero, List.append_nil] at this)
  subst e1
  obtain ⟨a0, c0, e0, hcap⟩ := hO.val
  injection e0 with e1 e2 e3
  subst e1 e2 e3
  exact ⟨_, u, rfl, ⟨.slice va _ vc, rfl, SU.own hO _ (Nat.le_refl _) (List.take_length ..) rfl⟩, hw.made (by simp)⟩
 (try simp only [qd, ne_eq] at h3)
 simp only [qz]
 refine rg_nil (ek_next (wk_cond_t rfl (wk_skip (ek_next (wk_block (wk_seq ?_))))))
 refine wk_region [0, 0, 0, 0, 1, 1, 0, 1] rfl Kx ?_
 simp only [qy]
 refine rf_field (n := 0) (j := 1) rfl rfl rfl Tryz.underlying81 rfl Kx rfl ?_
 simp only [qz]
 refine rf_load rfl rfl rfl Tryz.underlying79 rfl (fun w hw => (Kn.hd0 (Kn.tlU hw)).at rfl) ?_
 refine Zm ?_
 refine rf_conv rfl rfl rfl Tryz.underlying101 Tryz.underlying138 (IntKind.wrap_u32 _) ?_
 simp only [qz]
 refine rg_newS (cs := ?_) (ty := ?_) (n := 1) (c := 1) Rx (fun w => ?_) Nz (fun g5 => ?_); rotate_left 2
 focus (go_simp; rfl)
 simp only [qz]
 refine rg_pushU rfl rfl hc1 rfl Ox Nz (fun u6 v6 hO6 => ?_)
 simp only [qz]
 obtain ⟨va6, vc6, rfl, hcap6⟩ := hO6.val
 refine rf_field (n := 0) (j := 1) rfl rfl rfl Tryz.underlying81 rfl Kx rfl ?_
 simp only [qz]
 refine rf_store rfl rfl Kx rfl rfl (UpdR.app _ (UpdR.here _ _ _ Nl)) Nz ?_
 simp only [qz]
 refine rg_nil (ek_next ?_)
 refine wk_region [0, 0, 0] rfl Kx ?_
 refine Zm ?_
 refine rf_shr (c := 32) (q := 4294967296) rfl rfl rfl rfl rfl (by decide) ?_
 refine Zm ?_
 refine rg_nil (ek_block ?_)
 have hst : (zs ++ [t % 4294967296]) ++ digs (t / 4294967296).toNat = digs n.natAbs := by rw [← heq.out, push_digs Ox]
 refine ek_roundF ((t / 4294967296).toNat) (Ox) Kx ?_
 exact ⟨t / 4294967296, va6, _, vc6, u6, zs ++ [t % 4294967296], rfl, by rfl, by rfl, hO6, hst, Ox, Ox⟩
theorem us_map : ∀ ys : List Int, us ys = ys.map (.int .u32)
  | [] => rfl
  | y :: ys => by rw [us, El.flat_cons, List.map_cons, ← us_map ys]; rfl
theorem made_us (n : Nat) : madeCells (Value.int .u32 0).cells n = (us (List.replicate n 0)).toArray := by
  rw [us_map]
  unfold madeCells
  apply Array.ext'
  simp only [Array.toList_map, Array.toList_range]
  apply List.ext_getElem
  · simp
  intro i h1 h2
  simp [Value.cells, Nat.mod_one]
theorem set_us (zs : List Int) (i : Nat) (x : Int) : (us zs).toArray.setIfInBounds i (.int .u32 x) = (us (zs.set i x)).toArray := by
  rw [us_map, us_map]; simp [List.map_set]
theorem us_getA (zs : List Int) (k : Nat) (h : k < zs.length) : (us zs)[k]? = some (.int .u32 (dig zs k)) := us_get zs k h
theorem Rep.toUpd {g i t : Nat} {v : Value} {cs : Array Value} {s s' : List Blk} (h : Rep g (.cells cs t) (.cells (cs.setIfInBounds i v) t) s s') : Upd g i v s s' := by
  generalize ho : Obj.cells cs t = o at h
  generalize ho' : Obj.cells (cs.setIfInBounds i v) t = o' at h
  induction h with
  | here s => subst ho ho'; exact Upd.here t cs s
  | there b _ ih => exact .there b ih
theorem OwnG.wholeU {g : Nat} {zs : List Int} (h : zs.length ≤ 1000000) : OwnG DgE 138 [(g, .cells (us zs).toArray 138)] (.slice (some ⟨g, 0, none⟩) zs.length zs.length) zs :=
  Own.whole (cur := (us zs).toArray) (by simp [us_len]) (by simp only [maxLen]; omega)
section
variable {R : Option Nat} {ops : Array Oper} {Q : Exit → Act → World → Prop} {B : World} {F : List Nat} {s0 : Option (List Blk × List Blk)}
variable {l : List (Oper × Nat)} {a : Act} {s s' : List Blk} {d : Option Tmp} {t : TypeId} {p : String} {af : Array Edge} {v : Value}
theorem rg_makeU {lo co : Operand} {n : Nat} {z : Int} {gd : Option (Nat × Bool)} (hg : Region.wanted ⟨d, .makeSlice 79 lo co, t, p, af, gd⟩ (yielded ops a.tmps) = true) (hl : a.eval lo = .int .i64 z) (hc : a.eval co = .int .i64 z) (hz' : z = (n : Int)) (hn : n ≤ 1000000)
    (hzz : ∀ z ∈ s0, z.1.Sublist s) (h : ∀ g, Rg R Tryz.prog ops Q B F s0 l (a.put d (.slice (some ⟨g, 0, none⟩) n n)) ((g, .cells (us (List.replicate n 0)).toArray 138) :: s)) :
    Rg R Tryz.prog ops Q B F s0 ((⟨d, .makeSlice 79 lo co, t, p, af, gd⟩, 1) :: l) a s := by
  subst hz'
  obtain ⟨i, hi, hz, hs, hb⟩ := ip uInfo
  refine rg_make (i := i) (z := .int .u32 0) (n := n) hg Tryz.underlying79 hi hz hl hc (by rw [hb]; omega) Ox hzz fun g => ?_
  have : madeCells (Value.int .u32 0).cells (n * i.size) = (us (List.replicate n 0)).toArray := by rw [hs, Nat.mul_one]; exact made_us n
  rw [this]
  exact h g
theorem rf_storeU {x y : Operand} {g i : Nat} {zs : List Int} {z : Int} (hx : a.eval x = .pointer (some ⟨g, i, none⟩)) (hy : a.eval y = .int .u32 z) (hi : i < zs.length)
    (hr : Rep g (.cells (us zs).toArray 138) (.cells (us (zs.set i z)).toArray 138) s s') (hz : ∀ z ∈ s0, z.1.Sublist s') (h : Rg R Tryz.prog ops Q B F s0 l (a.put d undef) s') :
    Rg R Tryz.prog ops Q B F s0 ((⟨d, .store 138 x y, t, p, af, none⟩, 1) :: l) a s := by
  rw [← set_us] at hr; refine rg_store (fun w K => ⟨w.setCell ⟨g, i, none⟩ (.int .u32 z), ?_, K.set hr.toUpd⟩) hz h
  exact run_store1 hx hy Kx rfl rfl (there_of (K.hd hr.mem) (by simp [us_len]; omega))
theorem rf_storeUM {zz : List Blk × List Blk} {x y : Operand} {g i : Nat} {zs : List Int} {z : Int} (hx : a.eval x = .pointer (some ⟨g, i, none⟩)) (hy : a.eval y = .int .u32 z) (hi : i < zs.length)
    (hr : Rep g (.cells (us zs).toArray 138) (.cells (us (zs.set i z)).toArray 138) s s') (hz : zz.2.Sublist s') (h : Rg R Tryz.prog ops Q B F (some (zz.2, zz.2)) l (a.put d undef) s') :
    Rg R Tryz.prog ops Q B F (some zz) ((⟨d, .store 138 x y, t, p, af, none⟩, 2) :: l) a s := by
  rw [← set_us] at hr; refine rg_storeM (fun w K => ⟨w.setCell ⟨g, i, none⟩ (.int .u32 z), ?_, K.set hr.toUpd⟩) hz h
  exact run_store1 hx hy Kx rfl rfl (there_of (K.hd hr.mem) (by simp [us_len]; omega))
end
theorem or_u32 {x y : Int} (h0 : 0 ≤ x) (h1 : x < 2147483648) (hy : y = 0 ∨ y = 2147483648) : bits .or .u32 x y = x + y := by
  show IntKind.u32.wrap ((BitVec.ofInt 32 x ||| BitVec.ofInt 32 y).toNat : Int) = _
  obtain ⟨n, rfl⟩ : ∃ n : Nat, x = n := ⟨x.toNat, by omega⟩
  rw [BitVec.toNat_or, IntKind.wrap_u32]
  have e1 : (BitVec.ofInt 32 (n : Int)).toNat = n := by rw [BitVec.toNat_ofInt]; omega
  rw [e1]
  rcases hy with rfl | rfl
  · have : (BitVec.ofInt 32 (0 : Int)).toNat = 0 := by decide
    rw [this, Nat.or_zero]; omega
  have : (BitVec.ofInt 32 (2147483648 : Int)).toNat = 2 ^ 31 := by decide
  have h2 := Nat.two_pow_add_eq_or_of_lt (i := 31) (b := n) Ox 1
  rw [Nat.mul_one] at h2; rw [this, Nat.or_comm, ← h2]
  omega
theorem bneg_any (n : Int) (s : Value) (hl : (digs n.natAbs).length ≤ 1000) (w : World) (hs : SA w s n.natAbs) : Calls Tryz.prog 80 #[bgV n s] w fun e w' => e = .returned (bgV (-n) s) ∧ Below w.heap.size w w' := by
 obtain ⟨a, c, rfl, hA⟩ := hs
 have hlen := digs_nil_iff (n := n.natAbs)
 have hlz : (digs n.natAbs).length = 0 ↔ n = 0 := by rw [List.length_eq_zero_iff, hlen]; omega
 clear hlen
 go_enter Tryz.func80, Tryz.ntmps80
 refine wk_start ?_
 refine wk_seq ?_
 refine wk_region [1, 1] rfl Kx ?_
 simp only [qy]
 refine Rgn fun g1 => ?_
 simp only [qz]
 refine Rgn fun g2 => ?_
 simp only [qz]
 refine rg_nil (ek_next (wk_seq (wk_seq ?_)))
 refine wk_region [0, 0, 0, 0] rfl Kx ?_
 simp only [qy]
 refine rf_field (n := 0) (j := 1) rfl rfl rfl Tryz.underlying81 rfl Kx rfl ?_
 simp only [qz]
 refine rf_load rfl rfl rfl Tryz.underlying79 rfl (fun w hw => (Kn.hd0 (Kn.tl hw)).at rfl) ?_
 simp only [qz]
 refine rf_len rfl rfl rfl Tryz.underlying79 ?_
 simp only [qz]
 refine rfb_eql rfl rfl rfl rfl ?_
 intro x h1
 cases x
 ·(try simp only [qd, ne_eq] at h1)
  simp only [qz]; refine rg_nil (ek_next (wk_cond_f rfl (wk_skip (ek_next (wk_seq ?_))))); refine wk_region [0, 0, 0, 0, 0, 0, 1] rfl Kx ?_; simp only [qy]; refine rf_field (n := 0) (j := 0) rfl rfl rfl Tryz.underlying81 rfl Kx rfl ?_; simp only [qz]; refine rf_load rfl rfl rfl Tryz.underlying4 rfl (fun w hw => (Kn.hd0 (Kn.tl hw)).at rfl) ?_; simp only [qz]; refine rf_not rfl rfl rfl ?_; simp only [qz]; refine rf_field (n := 0) (j := 1) rfl rfl rfl Tryz.underlying81 rfl Kx rfl ?_
  simp only [qz]; refine rf_load rfl rfl rfl Tryz.underlying79 rfl (fun w hw => (Kn.hd0 (Kn.tl hw)).at rfl) ?_; simp only [qz]; refine rf_build (cs := fun a => #[a.eval (.tmp 10), a.eval (.tmp 12)]) rfl rfl Kx ?_; simp only [qz]; refine rf_storeR (n := 2) rfl rfl Kx rfl rfl (UpdR.here _ _ _ Nl) Nz ?_; simp only [qz, Nat.reduceAdd]; refine rg_nil (ek_next (wk_ret ?_)); refine ek_ret (fun w hw => ⟨rfl, _, run_results1 rfl rfl (Kn.hd0 hw) Tryz.underlying81 rfl Kx, ?_⟩)
  (try simp only [qz])
  have h0 : n ≠ 0 := fun e => by have := hlz.2 e; omega
  exact ⟨by (unfold bgV; rw [show decide (-n < 0) = !decide (n < 0) by (by_cases h : n < 0 <;> simp [h] <;> omega)]), hw.below⟩
 (try simp only [qd, ne_eq] at h1)
 simp only [qz]
 refine rg_nil (ek_next (wk_cond_t rfl (wk_seq ?_)))
 refine wk_region [0, 1] rfl Kx ?_
 simp only [qy]
 refine rf_loadR (n := 2) rfl rfl rfl Tryz.underlying81 rfl Kx (fun w hw => Kn.hd0 (Kn.tl hw)) rfl rfl ?_
 simp only [qz]
 refine rf_storeR (n := 2) rfl rfl Kx rfl rfl (UpdR.here _ _ _ Nl) Nz ?_
 simp only [qz, Nat.reduceAdd]
 refine rg_nil (ek_next (wk_ret (ek_then_ret ?_)))
 refine ek_ret (fun w hw => ⟨rfl, _, run_results1 rfl rfl (Kn.hd0 hw) Tryz.underlying81 rfl Kx, ?_⟩)
 (try simp only [qz])
 have h0 : n = 0 := hlz.1 Ox
 subst h0
 exact ⟨rfl, hw.below⟩
theorem beven_any (n : Int) (s : Value) (hl : (digs n.natAbs).length ≤ 1000) (w : World) (hs : SA w s n.natAbs) : Calls Tryz.prog 82 #[bgV n s] w fun e w' => e = .returned (.bool (decide (n % 2 = 0))) ∧ Below w.heap.size w w' := by
 obtain ⟨a, c, rfl, hA⟩ := hs
 have hlen := digs_nil_iff (n := n.natAbs)
 have hlz : (digs n.natAbs).length = 0 ↔ n = 0 := by rw [List.length_eq_zero_iff, hlen]; omega
 clear hlen
 go_enter Tryz.func82, Tryz.ntmps82
 refine wk_start ?_
 refine wk_seq ?_
 refine wk_region [1, 0] rfl Kx ?_
 simp only [qy]
 refine Rgn fun g1 => ?_
 refine Zm ?_
 refine rg_nil (ek_next (wk_seq ?_))
 refine wk_region [0, 0, 0, 0, 0, 0, 0, 0, 0, 0, 0, 0, 0] rfl Kx ?_
 simp only [qy]
 refine rf_field (n := 0) (j := 1) rfl rfl rfl Tryz.underlying81 rfl Kx rfl ?_
 simp only [qz]
 refine rf_load rfl rfl rfl Tryz.underlying79 rfl (fun w hw => (Kn.hd0 hw).at rfl) ?_
 simp only [qz]
 refine rf_len rfl rfl rfl Tryz.underlying79 ?_
 simp only [qz]
 refine rfb_eql rfl rfl rfl rfl ?_
 intro x h1
 cases x
 ·(try simp only [qd, ne_eq] at h1)
  simp only [qz]
  have hpos : 0 < (digs n.natAbs).length := by omega
  obtain ⟨b, off, rfl, hlt, hcell⟩ := AS.openU hA hpos
  have hd0 := (digs_dg n.natAbs).at 0
  have hev := digs_even n.natAbs
  refine Zm ?_; refine rf_field (n := 0) (j := 1) rfl rfl rfl Tryz.underlying81 rfl Kx rfl ?_; simp only [qz]; refine rf_load rfl rfl rfl Tryz.underlying79 rfl (fun w hw => (Kn.hd0 hw).at rfl) ?_; simp only [qz]; refine rf_indexS (n := 0) (sz := 1) (j := off + 0 * 1) rfl rfl rfl rfl Tryz.underlying79 Kx Ox Ox rfl ?_; simp only [qz]; refine rf_load rfl rfl rfl Tryz.underlying138 rfl (fun w hw => (by have := (Kn.cellB hw hlt (by simp) (off + 0)).trans (hcell 0 Ox); simpa using this)) ?_
  simp only [qz]; apply rg_soft_g
  case hg => rfl
  case hy => (intro w hw; go_simp; (try go_bits); exact Yld.mk _ _)
  simp only [qz]; refine rf_eql rfl rfl rfl rfl rfl ?_; simp only [qz]; refine rf_pick rfl rfl rfl ?_; refine Zm ?_; refine rg_nil (ek_next (wk_ret ?_)); refine ek_ret (fun w hw => ⟨rfl, _, res_t _ rfl, ?_⟩); (try simp only [qz]); refine ⟨?_, hw.below⟩
  congr 2
  first | exact decide_eq_decide.2 Ox | (apply Bool.eq_iff_iff.2; simp; omega)
 (try simp only [qd, ne_eq] at h1)
 refine Zm ?_
 refine rf_pick rfl rfl rfl ?_
 refine Zm ?_
 refine rg_nil (ek_next (wk_ret ?_))
 refine ek_ret (fun w hw => ⟨rfl, _, res_t _ rfl, ?_⟩)
 (try simp only [qz])
 have h0 : n = 0 := hlz.1 Ox
 subst h0
 exact ⟨rfl, hw.below⟩
theorem dig_one {N : Nat} (h : (digs N).length = 1) : dig (digs N) 0 = N := by
  have h1 := dval_digs N
  rw [← List.take_of_length_le (show (digs N).length ≤ 1 by omega), dval_take (k := 0) Ox] at h1
  simpa [dval] using h1
theorem smB_no {n : Int} (h : ¬ (-1000000000 ≤ n ∧ n ≤ 1000000000)) : smB n = false := by
  unfold smB
  rw [Bool.and_eq_false_iff, decide_eq_false_iff_not, decide_eq_false_iff_not]
  omega
theorem smB_yes {n : Int} (h : -1000000000 ≤ n) (h' : n ≤ 1000000000) : smB n = true := by
 unfold smB; rw [decide_eq_true h, decide_eq_true h']; rfl
theorem bsmall_any (n : Int) (s : Value) (hl : (digs n.natAbs).length ≤ 1000) (w : World) (hs : SA w s n.natAbs) : Calls Tryz.prog 84 #[bgV n s] w fun e w' => e = .returned (.tuple #[.int .i64 (if smB n = true then n else 0), .bool (smB n)]) ∧ Below w.heap.size w w' := by
 obtain ⟨a, c, rfl, hA⟩ := hs
 have hlen := digs_nil_iff (n := n.natAbs)
 have hlz : (digs n.natAbs).length = 0 ↔ n = 0 := by rw [List.length_eq_zero_iff, hlen]; omega
 clear hlen
 have hbig : ¬ (digs n.natAbs).length ≤ 1 → 4294967296 ≤ (n.natAbs : Int) := fun h1 => by rcases Int.lt_or_le (n.natAbs : Int) 4294967296 with h2 | h2; exact absurd (digs_len_le (L := 1) Ox) h1; exact h2
 have hone : (digs n.natAbs).length = 1 → dig (digs n.natAbs) 0 = n.natAbs := dig_one
 go_enter Tryz.func84, Tryz.ntmps84
 refine wk_start ?_
 refine wk_seq ?_
 refine wk_region [1, 0, 0] rfl Kx ?_
 simp only [qy]
 refine Rgn fun g1 => ?_
 refine Zm ?_
 refine rg_nil (ek_next (wk_seq (wk_seq ?_)))
 refine wk_region [0, 0, 0, 0] rfl Kx ?_
 simp only [qy]
 refine rf_field (n := 0) (j := 1) rfl rfl rfl Tryz.underlying81 rfl Kx rfl ?_
 simp only [qz]
 refine rf_load rfl rfl rfl Tryz.underlying79 rfl (fun w hw => (Kn.hd0 hw).at rfl) ?_
 simp only [qz]
 refine rf_len rfl rfl rfl Tryz.underlying79 ?_
 simp only [qz]
 refine rfb_gtr rfl rfl rfl rfl ?_
 intro x h1
 cases x
 ·(try simp only [qd, ne_eq] at h1)
  simp only [qz]; refine rg_nil (ek_next (wk_cond_f rfl (wk_skip (ek_next (wk_seq ?_))))); refine wk_region [0] rfl Kx ?_; refine Zm ?_; refine rg_nil (ek_next (wk_seq (wk_seq ?_))); refine wk_region [0, 0, 0, 0] rfl Kx ?_; simp only [qy]; refine rf_field (n := 0) (j := 1) rfl rfl rfl Tryz.underlying81 rfl Kx rfl ?_; simp only [qz]; refine rf_load rfl rfl rfl Tryz.underlying79 rfl (fun w hw => (Kn.hd0 hw).at rfl) ?_; simp only [qz]
  refine rf_len rfl rfl rfl Tryz.underlying79 ?_; simp only [qz]; refine rfb_eql rfl rfl rfl rfl ?_; intro x h2; cases x
  ·(try simp only [qd, ne_eq] at h2)
   simp only [qz]; refine rg_nil (ek_next (wk_cond_f rfl (wk_skip (ek_next (wk_seq (wk_seq ?_)))))); refine wk_region [0, 0] rfl Kx ?_; refine Zm ?_; refine rf_gtr (b := false) rfl rfl rfl rfl (by decide) ?_; simp only [qz]; refine rg_nil (ek_next (wk_cond_f rfl (wk_skip (ek_next (wk_seq (wk_seq ?_)))))); refine wk_region [0, 0] rfl Kx ?_; simp only [qy]; refine rf_field (n := 0) (j := 0) rfl rfl rfl Tryz.underlying81 rfl Kx rfl ?_
   simp only [qz]; refine rf_load rfl rfl rfl Tryz.underlying4 rfl (fun w hw => (Kn.hd0 hw).at rfl) ?_; simp only [qz]; refine rg_nil (ek_next ?_); refine wk_cond (t := _) rfl (fun h3 => ?_) (fun h3 => ?_)
   ·(try simp only [qd] at h3)
    refine wk_region [0, 0, 0] rfl Kx ?_; refine Zm ?_; refine rf_neg rfl rfl rfl (wrap_ok Ox Ox) ?_; refine Zm ?_; refine rg_nil (ek_next (wk_seq ?_)); refine wk_region [0, 0, 0] rfl Kx ?_; refine Zm ?_; refine rg_nil (ek_next (wk_ret ?_)); refine ek_ret (fun w hw => ⟨rfl, _, res_tt _ _ rfl, ?_⟩); (try simp only [qz]); refine ⟨?_, hw.below⟩
    exfalso; have := hlz.1 Ox; omega
   (try simp only [qd] at h3); refine wk_skip (ek_next (wk_seq ?_)); refine wk_region [0, 0, 0] rfl Kx ?_; refine Zm ?_; refine rg_nil (ek_next (wk_ret ?_)); refine ek_ret (fun w hw => ⟨rfl, _, res_tt _ _ rfl, ?_⟩); (try simp only [qz]); refine ⟨?_, hw.below⟩
   have e1 : 0 = n := by (first | omega | (have := hlz.1 Ox; omega))
   rw [e1, smB_yes (n := n) Ox Ox]
   rfl
  (try simp only [qd, ne_eq] at h2); simp only [qz]
  have hpos : 0 < (digs n.natAbs).length := by omega
  obtain ⟨b, off, rfl, hlt, hcell⟩ := AS.openU hA hpos
  have hd0 := (digs_dg n.natAbs).at 0
  have hdv := hone Ox
  refine rg_nil (ek_next (wk_cond_t rfl ?_)); refine wk_region [0, 0, 0, 0, 0, 0] rfl Kx ?_; simp only [qy]; refine rf_field (n := 0) (j := 1) rfl rfl rfl Tryz.underlying81 rfl Kx rfl ?_; simp only [qz]; refine rf_load rfl rfl rfl Tryz.underlying79 rfl (fun w hw => (Kn.hd0 hw).at rfl) ?_; simp only [qz]; refine rf_indexS (n := 0) (sz := 1) (j := off + 0 * 1) rfl rfl rfl rfl Tryz.underlying79 Kx Ox Ox rfl ?_; simp only [qz]
  refine rf_load rfl rfl rfl Tryz.underlying138 rfl (fun w hw => (by have := (Kn.cellB hw hlt (by simp) (off + 0)).trans (hcell 0 Ox); simpa using this)) ?_; simp only [qz]; refine rf_conv rfl rfl rfl Tryz.underlying138 Tryz.underlying3 (wrap_ok Ox Ox) ?_; refine Zm ?_; refine rg_nil (ek_next (wk_seq (wk_seq ?_))); refine wk_region [0, 0] rfl Kx ?_; refine Zm ?_; refine rfb_gtr rfl rfl rfl rfl ?_; intro x h4; cases x
  ·(try simp only [qd, ne_eq] at h4)
   simp only [qz]; refine rg_nil (ek_next (wk_cond_f rfl (wk_skip (ek_next (wk_seq (wk_seq ?_)))))); refine wk_region [0, 0] rfl Kx ?_; simp only [qy]; refine rf_field (n := 0) (j := 0) rfl rfl rfl Tryz.underlying81 rfl Kx rfl ?_; simp only [qz]; refine rf_load rfl rfl rfl Tryz.underlying4 rfl (fun w hw => (Kn.hd0 hw).at rfl) ?_; simp only [qz]; refine rg_nil (ek_next ?_); refine wk_cond (t := _) rfl (fun h5 => ?_) (fun h5 => ?_)
   ·(try simp only [qd] at h5)
    refine wk_region [0, 0, 0] rfl Kx ?_; refine Zm ?_; refine rf_neg rfl rfl rfl (wrap_ok Ox Ox) ?_; refine Zm ?_; refine rg_nil (ek_next (wk_seq ?_)); refine wk_region [0, 0, 0] rfl Kx ?_; refine Zm ?_; refine rg_nil (ek_next (wk_ret ?_)); refine ek_ret (fun w hw => ⟨rfl, _, res_tt _ _ rfl, ?_⟩); (try simp only [qz]); refine ⟨?_, hw.below⟩
    have e1 : -dig (digs n.natAbs) 0 = n := by (first | omega | (have := hlz.1 Ox; omega))
    rw [e1, smB_yes (n := n) Ox Ox]
    rfl
   (try simp only [qd] at h5); refine wk_skip (ek_next (wk_seq ?_)); refine wk_region [0, 0, 0] rfl Kx ?_; refine Zm ?_; refine rg_nil (ek_next (wk_ret ?_)); refine ek_ret (fun w hw => ⟨rfl, _, res_tt _ _ rfl, ?_⟩); (try simp only [qz]); refine ⟨?_, hw.below⟩
   have e1 : dig (digs n.natAbs) 0 = n := by (first | omega | (have := hlz.1 Ox; omega))
   rw [e1, smB_yes (n := n) Ox Ox]
   rfl
  (try simp only [qd, ne_eq] at h4); simp only [qz]; refine rg_nil (ek_next (wk_cond_t rfl (wk_seq ?_))); refine wk_region [0, 0] rfl Kx ?_; refine Zm ?_; refine rg_nil (ek_next (wk_ret (ek_then_ret ?_))); refine ek_ret (fun w hw => ⟨rfl, _, res_tt _ _ rfl, ?_⟩); (try simp only [qz]); refine ⟨?_, hw.below⟩; rw [smB_no (n := n) Ox]
  rfl
 (try simp only [qd, ne_eq] at h1)
 simp only [qz]
 refine rg_nil (ek_next (wk_cond_t rfl (wk_seq ?_)))
 refine wk_region [0, 0] rfl Kx ?_
 refine Zm ?_
 refine rg_nil (ek_next (wk_ret (ek_then_ret ?_)))
 refine ek_ret (fun w hw => ⟨rfl, _, res_tt _ _ rfl, ?_⟩)
 (try simp only [qz])
 refine ⟨?_, hw.below⟩
 have hb := hbig Ox
 rw [smB_no (n := n) Ox]
 rfl
theorem Dg_zero (n : Nat) : Dg (List.replicate n 0) := fun x hx => by rw [List.mem_replicate] at hx; omega
theorem half_step {xs zs : List Int} {i : Nat} {v : Int} (h : 2 * dval (zs.take i) + dig xs 0 % 2 = dval (xs.take i) + 4294967296 ^ i * (dig xs i % 2)) (hi : i < zs.length)
    (hv : 2 * v = dig xs i - dig xs i % 2 + 4294967296 * (dig xs (i + 1) % 2)) : 2 * dval ((zs.set i v).take (i + 1)) + dig xs 0 % 2 = dval (xs.take (i + 1)) + 4294967296 ^ (i + 1) * (dig xs (i + 1) % 2) := by
  rw [dval_take', dval_take', dig_set _ _ hi, if_pos rfl, pw_succ]
  have e : (zs.set i v).take i = zs.take i := by rw [List.take_set_of_le (Nat.le_refl _)]
  rw [e]
  have e2 : (4294967296 : Int) ^ i * (2 * v) = 4294967296 ^ i * dig xs i - 4294967296 ^ i * (dig xs i % 2) + 4294967296 ^ i * (4294967296 * (dig xs (i + 1) % 2)) := by rw [hv]; grind
  grind
theorem bhalf_any (n : Int) (s : Value) (hl : (digs n.natAbs).length ≤ 1000) (he : n % 2 = 0) (w : World) (hs : SA w s n.natAbs) : Calls Tryz.prog 83 #[bgV n s] w fun e w' => RetB w (n / 2) e w' := by
 obtain ⟨a, c, rfl, hA⟩ := hs
 go_enter Tryz.func83, Tryz.ntmps83
 refine wk_start ?_
 refine wk_seq ?_
 refine wk_region [1, 1] rfl Kx ?_
 simp only [qy]
 refine Rgn fun g1 => ?_
 simp only [qz]
 refine Rgn fun g2 => ?_
 simp only [qz]
 refine rg_nil (ek_next (wk_seq ?_))
 refine wk_region [0, 0, 0, 1, 0] rfl Kx ?_
 simp only [qy]
 refine rf_field (n := 0) (j := 1) rfl rfl rfl Tryz.underlying81 rfl Kx rfl ?_
 simp only [qz]
 refine rf_load rfl rfl rfl Tryz.underlying79 rfl (fun w hw => (Kn.hd0 (Kn.tl hw)).at rfl) ?_
 simp only [qz]
 refine rf_len rfl rfl rfl Tryz.underlying79 ?_
 simp only [qz]
 refine rg_makeU (n := (digs n.natAbs).length) Rx rfl rfl Ox Ox Nz (fun g3 => ?_)
 refine Zm ?_
 refine rg_nil (ek_next (wk_seq (wk_seq ?_)))
 refine wk_region [0] rfl Kx ?_
 refine Zm ?_
 refine rg_nil (ek_next (wk_block ?_))
 refine wk_loopF [4, 9, 10, 11, 12, 13, 14, 15, 16, 17, 18, 19, 20, 21, 22, 23, 24, 25, 26, 27, 28, 29, 30, 31, 32, 33, 34, 35, 36, 37, 38, 39, 40, 41, 42, 43, 44, 45] (fun mz f s => ∃ (i : Nat) (zs : List Int), f 3 = .slice (some ⟨g3, 0, none⟩) (digs n.natAbs).length (digs n.natAbs).length ∧ f 4 = .int .i64 i ∧ s = ((g3, .cells (us zs).toArray 138) :: ((g2, .cells #[.bool false, .slice none 0 0] 81) :: ((g1, .cells #[.bool (decide (n < 0)), .slice a (digs n.natAbs).length c] 81) :: []))) ∧ mz = (digs n.natAbs).length - i ∧ zs.length ≤ (digs n.natAbs).length ∧ (digs n.natAbs).length ≤ zs.length ∧ Dg zs ∧ 2 * dval (zs.take i) + dig (digs n.natAbs) 0 % 2 = dval ((digs n.natAbs).take i) + 4294967296 ^ i * (dig (digs n.natAbs) i % 2) ∧ i ≤ (digs n.natAbs).length) ((fun (i : Nat) (zs : List Int) => (digs n.natAbs).length - i) (0) ((List.replicate (digs n.natAbs).length 0))) ?_ Kx ?_
 ·exact ⟨0, (List.replicate (digs n.natAbs).length 0), rfl, rfl, rfl, rfl, by simp, by simp, Dg_zero _, by simp [dval], by omega⟩
 rintro mz f1 s ⟨i, zs, hs1_3, hs1_4, rfl, hn, hc1, hc2, hc3, hc4, hc5⟩
 simp only [Act.putF, List.foldl_cons, List.foldl_nil, hs1_3, hs1_4, Act.put, Act.eval, q1, q2, q3, q4, q5, q6, q7, q8, q9, q10, q11, q12, q13, q14, q15, q16, q17, q18, Nat.reduceAdd, Bool.not_true, Bool.not_false]
 clear hs1_3 hs1_4
 have heq := Lib.hid hc4
 clear hc4
 refine wk_seq (wk_seq ?_)
 refine wk_region [0, 0, 0, 0, 0] rfl Kx ?_
 refine Zm ?_
 refine rf_field (n := 0) (j := 1) rfl rfl rfl Tryz.underlying81 rfl Kx rfl ?_
 simp only [qz]
 refine rf_load rfl rfl rfl Tryz.underlying79 rfl (fun w hw => (Kn.hd0 (Kn.tl (Kn.tl hw))).at rfl) ?_
 simp only [qz]
 refine rf_len rfl rfl rfl Tryz.underlying79 ?_
 simp only [qz]
 refine rfb_lss rfl rfl rfl rfl ?_
 intro x h1
 cases x
 ·(try simp only [qd, ne_eq] at h1)
  simp only [qz]; refine rg_nil (ek_next (wk_cond_f rfl (wk_exit (ek_then_exit (ek_then_exit (ek_block_exit (ek_next (wk_seq ?_)))))))); refine wk_draws_m (hz1 := (sc _ (sk _ (sc _ sn)))) [(0, 0), (1, 0), (2, 0), (3, 1), (4, 0), (5, 2)] 5 Kx Kx (fun c d v a w h => by cases d <;> exact h) ?_; simp only [List.map_cons, List.map_nil, List.getD_cons_zero, List.getD_cons_succ]; refine rf_field (n := 0) (j := 0) rfl rfl rfl Tryz.underlying81 rfl Kx rfl ?_
  simp only [qz]; refine rf_load rfl rfl rfl Tryz.underlying4 rfl (fun w hw => (Kn.hd0 (Kn.tl (Kn.tl hw))).at rfl) ?_; refine Zm ?_
  have hO := OwnG.wholeU (g := g3) (zs := zs) Ox
  have hzl : zs.length = (digs n.natAbs).length := by omega
  rw [hzl] at hO
  apply (rg_or (X := fun v => ∃ m, m ≤ zs.length ∧ v = .slice (some ⟨g3, 0, none⟩) m (digs n.natAbs).length ∧ (∀ j, m ≤ j → dig zs j = 0) ∧ (m = 0 ∨ dig zs (m - 1) ≠ 0))) Rx Kx
  case hargs => exact Ax
  case h => exact fun w hw => by have := trimmed_any zs (some ⟨g3, 0, none⟩) (digs n.natAbs).length hc3 Ox Ox w (hO.as' (Kn.sub (s' := [(g3, .cells (us zs).toArray 138)] ++ []) hw (sc _ (sk _ (sk _ sn))))); rw [hzl] at this; exact this.mono fun e w' ⟨m, h1, h2, h3, h4, h5⟩ => ⟨_, h2, ⟨m, hzl ▸ h1, rfl, h3, h4⟩, h5⟩
  case hz => exact (fun _ h => by cases h; exact (sc _ (sc _ (sc _ sn))))
  rintro v ⟨m, hm1, rfl, hm2, hm3⟩
  simp only [qz]; refine rf_build (cs := fun a => #[a.eval (.tmp 47), a.eval (.tmp 49)]) rfl rfl Kx ?_; simp only [qz]; refine rf_storeRM (n := 2) rfl rfl Kx rfl rfl (UpdR.there _ (UpdR.here _ _ _ Nl)) (sc _ (sk _ (sc _ sn))) ?_; simp only [qz, Nat.reduceAdd]; refine rg_nil (ek_next (wk_ret ?_)); refine ek_ret (fun w hw => ⟨rfl, _, run_results1 rfl rfl (Kn.hd0 (Kn.tl hw)) Tryz.underlying81 rfl Kx, ?_⟩); (try simp only [qz])
  have e1 : dval zs = (n / 2).natAbs := by
   have h1 := heq.out
   rw [List.take_of_length_le Ox, List.take_of_length_le Ox, dval_digs, dig_out (k := i) Ox, digs_even] at h1
   have h3 := (dval_range hc3).1
   omega
  have e2 : (dval zs).toNat = (n / 2).natAbs := by omega
  have hS := SU.own hO m hm1 ((trim_eq hc3 hm1 hm2 hm3).trans (by rw [e2])) (a := some ⟨g3, 0, none⟩) (c := (digs n.natAbs).length) (by rw [hzl])
  refine ⟨_, _, rfl, ⟨.slice (some ⟨g3, 0, none⟩) m (digs n.natAbs).length, ?_, hS⟩, hw.made (sc _ (sk _ (sk _ sn)))⟩
  unfold bgV
  rw [show decide (n / 2 < 0) = decide (n < 0) from decide_eq_decide.2 Ox]
 (try simp only [qd, ne_eq] at h1)
 simp only [qz]
 have hpos : 0 < (digs n.natAbs).length := by omega
 obtain ⟨b, off, rfl, hlt, hcell⟩ := AS.openU hA hpos
 have hdi := (digs_dg n.natAbs).at i
 have hdi1 := (digs_dg n.natAbs).at (i + 1)
 refine rg_nil (ek_next (wk_cond_t rfl (wk_skip (ek_next (wk_seq (wk_block (wk_seq ?_)))))))
 refine wk_region [0, 0, 0, 0, 0, 0, 0, 0, 0, 1] rfl Kx ?_
 refine Zm ?_
 refine rf_field (n := 0) (j := 1) rfl rfl rfl Tryz.underlying81 rfl Kx rfl ?_
 simp only [qz]
 refine rf_load rfl rfl rfl Tryz.underlying79 rfl (fun w hw => (Kn.hd0 (Kn.tl (Kn.tl hw))).at rfl) ?_
 refine Zm ?_
 refine rf_indexS (n := i) (sz := 1) (j := off + i * 1) rfl rfl rfl rfl Tryz.underlying79 Kx Ox Ox rfl ?_
 simp only [qz]
 refine rf_load rfl rfl rfl Tryz.underlying138 rfl (fun w hw => (by have := (Kn.cellB hw hlt (by simp) (off + i)).trans (hcell i Ox); simpa using this)) ?_
 simp only [qz]
 refine rf_shr (c := 1) (q := 2) rfl rfl rfl rfl rfl (by decide) ?_
 simp only [qz]
 refine rf_indexS (n := i) (sz := 1) (j := i) rfl rfl rfl rfl Tryz.underlying79 Kx Ox Ox Ox ?_
 simp only [qz]
 refine rf_storeU (i := i) (z := dig (digs n.natAbs) i / 2) rfl rfl (by (try simp only [List.length_set]); omega) (Rep.here _) Nz ?_
 simp only [qz]
 refine rg_nil (ek_next (wk_seq ?_))
 refine wk_region [0, 0, 0, 0, 0, 0] rfl Kx ?_
 refine Zm ?_
 refine rf_add rfl rfl rfl rfl (wrap_ok Ox Ox) ?_
 simp only [qz]
 refine rf_field (n := 0) (j := 1) rfl rfl rfl Tryz.underlying81 rfl Kx rfl ?_
 simp only [qz]
 refine rf_load rfl rfl rfl Tryz.underlying79 rfl (fun w hw => (Kn.hd0 (Kn.tl (Kn.tl hw))).at rfl) ?_
 simp only [qz]
 refine rf_len rfl rfl rfl Tryz.underlying79 ?_
 simp only [qz]
 refine rfb_lss rfl rfl rfl rfl ?_
 intro x h2
 cases x
 ·(try simp only [qd, ne_eq] at h2)
  simp only [qz]; refine rg_nil (ek_next (wk_cond_f rfl (wk_skip (ek_block (ek_next ?_))))); refine wk_region [0, 0, 0] rfl Kx ?_; refine Zm ?_; refine rf_add rfl rfl rfl rfl (wrap_ok Ox Ox) ?_; refine Zm ?_; refine rg_nil ?_
  have hx1 := dig_out (xs := (digs n.natAbs)) (k := i + 1) Ox
  have hst := half_step (xs := (digs n.natAbs)) (zs := zs) (i := i) (v := dig (digs n.natAbs) i / 2) heq.out Ox Ox
  refine ek_roundF ((digs n.natAbs).length - (i + 1)) Ox Kx ?_
  exact ⟨i + 1, zs.set i (dig (digs n.natAbs) i / 2), rfl, rfl, Rx, by rfl, (by rw [List.length_set]; exact hc1), (by rw [List.length_set]; exact hc2), Dg.set hc3 i Ox Ox, hst, Ox⟩
 (try simp only [qd, ne_eq] at h2)
 simp only [qz]
 have hset : dig (zs.set i (dig (digs n.natAbs) i / 2)) i = dig (digs n.natAbs) i / 2 := by rw [dig_set _ _ Ox, if_pos rfl]
 have hor := or_u32 (x := dig (digs n.natAbs) i / 2) (y := dig (digs n.natAbs) (i + 1) * 2147483648 % 4294967296) Ox Ox Ox
 refine rg_nil (ek_next (wk_cond_t rfl ?_))
 refine wk_draws_m (hz1 := (sk _ (sc _ (sc _ sn)))) [(0, 0), (1, 0), (2, 0), (3, 0), (4, 0), (5, 0), (6, 0), (7, 0), (8, 0), (9, 0), (10, 0), (11, 0), (12, 0), (13, 0), (14, 0), (15, 2)] 15 Kx Kx (fun c d v a w h => by cases d <;> exact h) ?_
 simp only [List.map_cons, List.map_nil, List.getD_cons_zero, List.getD_cons_succ]
 refine Zm ?_
 refine rf_indexS (n := i) (sz := 1) (j := i) rfl rfl rfl rfl Tryz.underlying79 Kx Ox Ox Ox ?_
 simp only [qz]
 refine rf_load rfl rfl rfl Tryz.underlying138 rfl (fun w hw => (Kn.hd0 hw).at (us_getA _ _ (by (try simp only [List.length_set]); omega))) ?_
 simp only [qz]
 refine rf_field (n := 0) (j := 1) rfl rfl rfl Tryz.underlying81 rfl Kx rfl ?_
 simp only [qz]
 refine rf_load rfl rfl rfl Tryz.underlying79 rfl (fun w hw => (Kn.hd0 (Kn.tl (Kn.tl hw))).at rfl) ?_
 refine Zm ?_
 refine rf_add rfl rfl rfl rfl (wrap_ok Ox Ox) ?_
 simp only [qz]
 refine rf_indexS (n := i + 1) (sz := 1) (j := off + (i + 1) * 1) rfl rfl rfl rfl Tryz.underlying79 Kx Ox Ox rfl ?_
 simp only [qz]
 refine rf_load rfl rfl rfl Tryz.underlying138 rfl (fun w hw => (by have := (Kn.cellB hw hlt (by simp) (off + (i + 1))).trans (hcell (i + 1) Ox); simpa using this)) ?_
 simp only [qz]
 refine rf_shl (c := 31) (q := 2147483648) rfl rfl rfl rfl rfl (by decide) (IntKind.wrap_u32 _) ?_
 simp only [qz]
 refine Zk ?_
 refine rf_indexS (n := i) (sz := 1) (j := i) rfl rfl rfl rfl Tryz.underlying79 Kx Ox Ox Ox ?_
 simp only [qz]
 refine rf_storeUM (i := i) (z := dig (digs n.natAbs) i / 2 + dig (digs n.natAbs) (i + 1) * 2147483648 % 4294967296) rfl rfl (by (try simp only [List.length_set]); omega) (Rep.here _) (sk _ (sc _ (sc _ sn))) ?_
 simp only [qz]
 refine rg_nil (ek_block (ek_next ?_))
 refine wk_region [0, 0, 0] rfl Kx ?_
 refine Zm ?_
 refine rf_add rfl rfl rfl rfl (wrap_ok Ox Ox) ?_
 refine Zm ?_
 refine rg_nil ?_
 have hst := half_step (xs := (digs n.natAbs)) (zs := zs) (i := i) (v := dig (digs n.natAbs) i / 2 + dig (digs n.natAbs) (i + 1) * 2147483648 % 4294967296) heq.out Ox Ox
 refine ek_roundF ((digs n.natAbs).length - (i + 1)) Ox Kx ?_
 exact ⟨i + 1, zs.set i (dig (digs n.natAbs) i / 2 + dig (digs n.natAbs) (i + 1) * 2147483648 % 4294967296), rfl, rfl, (by rw [List.set_set]), by rfl, (by rw [List.length_set]; exact hc1), (by rw [List.length_set]; exact hc2), Dg.set hc3 i Ox Ox, hst, Ox⟩
end Go.Proofs.YtccbinnlnkpplaaGreat
