/- Texts in one: Pt1, Pt2, WdPl, Add64, Sub64, WtP, Xi, PeDo, PeW, R4, FrmM, Mul64. -/
import Derived.Test.YtjeijnjaleldkaaLAlikeE
import Derived.Shelf.Spec.BitsCarry
import Derived.Deep.Slices
import Derived.Lib.SmallJoins
import Derived.Lib.Mul64
import Derived.Laws.Bits64b
import Derived.Lib.Strings
import Derived.Lib.Slices
import Derived.Lib.Small
import Derived.Lib.Walk
import Derived.Lib.BitFns
import Derived.Lib.ItoaNum
import Derived.Deep.Light
namespace Go.Proofs.Ytjeijnjaleldkaa
set_option linter.all false
set_option maxRecDepth 100000
set_option maxHeartbeats 1000000
open Go.RowKit
theorem fold_zip1 {γ : Type} (f : γ → Nat × Value → γ) (t : γ) (p : Nat) (v : Value) : Array.foldl f t (#[p].zip #[v]) = f t (p, v) := by
 have e : (#[p].zip #[v]) = #[(p, v)] := by rw [List.zip_toArray]; rfl
 rw [e]; simp
theorem ex_loop {B w : World} {F : List Nat} {s : List Blk} {l : Nat} {r : Loop} (K : Kn B F ((l, .loop r) :: s) w) : ∃ r', r' = r := ⟨_, rfl⟩
def PatC (m : Nat) : Prop := ∀ (p lp gm gp L : Nat) (r : Loop) (C : List (List Int) → List Blk → Prop) (ys : List (List Int)) (s0 : List Blk) (w : World) (F : List Nat), p ≤ 5 → ys.length + (pats m p).length ≤ L → RoundsP L m lp r C → C ys s0 →
  Kn w F (s0 ++ [(gm, .cells #[.int .i64 m] 3), (gp, .cells #[.int .i64 p] 3)]) w →
  Calls Try.prog 118 #[.func (.yield lp) #[] #[], .pointer (some ⟨gm, 0, none⟩), .pointer (some ⟨gp, 0, none⟩)] w fun e w' => e = .returned (.tuple #[]) ∧ ∃ s u, C (ys ++ pats m p) s ∧ Kn w F (s ++ u) w'
theorem patterns_any (m p : Int) (w : World) : Calls Try.prog 69 #[.int .i64 m, .int .i64 p] w fun e w' => ∃ gm gp, e = .returned (.func (.func 118) #[] #[.pointer (some ⟨gm, 0, none⟩), .pointer (some ⟨gp, 0, none⟩)]) ∧ Made w [(gm, .cells #[.int .i64 m] 3), (gp, .cells #[.int .i64 p] 3)] w' := by
 go_enter Try.func69, Try.ntmps69
 refine wk_start ?_
 refine wk_seq ?_
 refine wk_region [1, 1, 0] rfl Kx ?_
 simp only [qy]
 refine Rgn fun g1 => ?_
 simp only [qz]
 refine Rgn fun g2 => ?_
 simp only [qz]
 refine rg_assign ?_
 simp only [qz]
 refine rg_nil (ek_next (wk_seq ?_))
 refine wk_region [0, 0] rfl Kx ?_
 simp only [qy]
 apply rg_soft
 case hy => (intro w hw; go_simp; (try go_bits); exact Yld.mk _ _)
 simp only [qz]
 refine rg_assign ?_
 simp only [qz]
 refine rg_nil (ek_next (wk_ret ?_))
 refine ek_ret (fun w hw => ⟨rfl, _, res_t _ rfl, ?_⟩)
 (try simp only [qz])
 exact ⟨g1, g2, rfl, (hw.perm (List.Perm.swap _ _ _)).made (List.Sublist.refl _)⟩
theorem pat_one : PatC 1 := by
 intro p lp gm gp L r C ys s0 w F hp hlim hR hC K
 have hlim' : ys.length < L := by (simp [pats] at hlim; omega)
 revert hC K
 generalize s0 = uC
 intro hC K
 refine calls_marksF K Try.func118 rfl ?_
 simp only [Try.ntmps118, List.size_toArray, List.length_cons, List.length_nil, Nat.reduceAdd, Nat.reduceSub, Array.replicate_succ, Array.replicate_zero, List.push_toArray, List.append_toArray, List.nil_append, List.cons_append]
 refine wk_seq ?_
 refine wk_region [1] rfl Kx ?_
 simp only [qy]
 refine Rgn fun g1 => ?_
 simp only [qz]
 refine rg_nil (ek_next (wk_seq (wk_seq ?_)))
 refine wk_region [0, 0] rfl Kx ?_
 simp only [qy]
 refine rf_load rfl rfl rfl Try.underlying3 rfl (fun w hw => (Kn.hd0 (Kn.tlU (Kn.tl hw))).at rfl) ?_
 simp only [qz]
 refine rfb_eql rfl rfl rfl rfl ?_
 intro x h1
 obtain rfl : x = true := by (refine h1.symm.trans ?_; exact decide_eq_true Ox)
 clear h1
 simp only [qz]
 refine rg_nil (ek_next (wk_cond_t rfl (wk_seq ?_)))
 refine wk_region [0, 0, 1, 1] rfl Kx ?_
 simp only [qy]
 refine rf_load rfl rfl rfl Try.underlying57 rfl (fun w hw => (Kn.hd0 hw).at rfl) ?_
 simp only [qz]
 refine rf_load rfl rfl rfl Try.underlying3 rfl (fun w hw => (Kn.hd0 (Kn.tl (Kn.tlU (Kn.tl hw)))).at rfl) ?_
 simp only [qz]
 refine rg_newS (cs := ?_) (ty := ?_) (n := 1) (c := 1) Rx (fun w => ?_) Nz (fun g2 => ?_); rotate_left 2
 focus (go_simp; rfl)
 simp only [qz]
 refine rg_yieldP (u := [_]) (row := [(p : Int)]) hR hC (by simp) (by simp) Ox (OwnZ.one _) (by exact ((perm_atU (l := [_]) (u := uC) (List.Perm.refl _)).cons _)) Rx rfl (by simp only [qm, qs, Act.eval] <;> rfl) (fun sD hCD => ?_)
 simp only [qz]
 refine rg_nil (ek_next (wk_ret (ek_then_ret ?_)))
 refine ek_retM0 (fun w hw => ⟨_, res_0 rfl, ?_⟩)
 exact ⟨rfl, sD, _, hCD, hw⟩
theorem as6 {α : Type} {x y z a b : α} {u r : List α} : x :: y :: z :: (u ++ (a :: b :: r)) = ((x :: y :: z :: u) ++ [a, b]) ++ r := by simp
theorem wrap_eq' {n r : Int} (h : n = r) (h0 : -9223372036854775808 ≤ r) (h1 : r < 9223372036854775808) : IntKind.i64.wrap n = r := by
 rw [h]; exact wrap_ok Ox Ox
theorem pat_step {m : Nat} (hm : m + 2 ≤ 6) (IH : PatC (m + 1)) : PatC (m + 2) := by
 intro p lp gm gp L r C ys s0 w F hp hlim hR hC K
 revert hC K
 generalize s0 = uC
 intro hC K
 refine calls_marksF K Try.func118 rfl ?_
 simp only [Try.ntmps118, List.size_toArray, List.length_cons, List.length_nil, Nat.reduceAdd, Nat.reduceSub, Array.replicate_succ, Array.replicate_zero, List.push_toArray, List.append_toArray, List.nil_append, List.cons_append]
 refine wk_seq ?_
 refine wk_region [1] rfl Kx ?_
 simp only [qy]
 refine Rgn fun g1 => ?_
 simp only [qz]
 refine rg_nil (ek_next (wk_seq (wk_seq ?_)))
 refine wk_region [0, 0] rfl Kx ?_
 simp only [qy]
 refine rf_load rfl rfl rfl Try.underlying3 rfl (fun w hw => (Kn.hd0 (Kn.tlU (Kn.tl hw))).at rfl) ?_
 simp only [qz]
 refine rfb_eql rfl rfl rfl rfl ?_
 intro x h1
 obtain rfl : x = false := by (refine h1.symm.trans ?_; exact decide_eq_false Ox)
 clear h1
 simp only [qz]
 refine rg_nil (ek_next (wk_cond_f rfl (wk_skip (ek_next (wk_seq ?_)))))
 refine wk_region [0, 1, 1] rfl Kx ?_
 simp only [qy]
 refine rf_load rfl rfl rfl Try.underlying3 rfl (fun w hw => (Kn.hd0 (Kn.tl (Kn.tlU (Kn.tl hw)))).at rfl) ?_
 simp only [qz]
 refine Rgn fun g2 => ?_
 simp only [qz]
 refine rf_store rfl rfl Kx rfl rfl (UpdR.here _ _ _ Nl) Nz ?_
 simp only [qz]
 refine rg_nil (ek_next (wk_block ?_))
 refine wk_loopD [4, 5, 13, 14, 15, 16, 17, 18, 19, 20, 21, 22, 23, 24, 25, 26, 27, 28, 29, 30, 31] (fun mz f ds s => ∃ (t : Nat) (dl : List Nat) (uC : List Blk) (gF : Nat), f 4 = .pointer (some ⟨gF, 0, none⟩) ∧ ds = collD dl ∧ s = (gF, .cells #[.int .i64 ((p : Int) - ((t : Nat) : Int))] 3) :: (g1, .cells #[.func (.yield lp) #[] #[]] 57) :: (uC ++ ((gm, .cells #[.int .i64 (((m + 2 : Nat) : Int))] 3) :: (gp, .cells #[.int .i64 (p)] 3) :: (marksD dl ++ []))) ∧ mz = p + 1 - t ∧ t ≤ p + 1 ∧ C (ys ++ patsT (m + 1) p t) uC) (p + 1 - 0) ?_ Kx ?_
 ·exact ⟨0, [], uC, g2, rfl, rfl, (by rw [show ((p : Int) - ((0 : Nat) : Int)) = p by omega]; rfl), rfl, by omega, (by have h := hC; rwa [show ys = ys ++ patsT (m + 1) p 0 by simp [patsT]] at h)⟩
 clear hC
 rintro mz f1 ds s ⟨t, dl, uC, gF, hs4, rfl, rfl, hn, ht, hC⟩
 simp only [Act.putF, List.foldl_cons, List.foldl_nil, hs4, Act.put, Act.eval, q1, q2, q3, q4, q5, q6, q7, q8, q9, q10, q11, q12, q13, q14, q15, q16, q17, q18, Nat.reduceAdd, Bool.not_true, Bool.not_false]
 clear hs4
 refine wk_seq (wk_seq ?_)
 refine wk_region [0, 0] rfl Kx ?_
 simp only [qy]
 refine rf_load rfl rfl rfl Try.underlying3 rfl (fun w hw => (Kn.hd0 hw).at rfl) ?_
 simp only [qz]
 refine rfb_geq rfl rfl rfl rfl ?_
 intro x h2
 cases x
 ·(try simp only [qd, ne_eq] at h2)
  simp only [qz]
  refine rg_nil (ek_next (wk_cond_f rfl (wk_exit (ek_then_exit (ek_then_exit (ek_block_exit ?_))))))
  refine ek_perm ((((((((((((List.Perm.refl _).cons _).trans (List.perm_middle (l₁ := (marksD dl))).symm).cons _).trans (List.perm_middle (l₁ := (marksD dl))).symm).append_left _).trans (List.perm_append_comm_assoc uC (marksD dl) _)).cons _).trans (List.perm_middle (l₁ := (marksD dl))).symm).cons _).trans (List.perm_middle (l₁ := (marksD dl))).symm).trans ((perm_atU (l := [_, _]) (u := uC) (List.Perm.refl _)).append_left _)) ?_
  obtain rfl : t = p + 1 := by omega
  refine ek_normMn dl (fun w hw => ⟨_, res_0 rfl, ?_⟩)
  exact ⟨rfl, uC, _, by rw [pats_T]; exact hC, hw⟩
 (try simp only [qd, ne_eq] at h2)
 simp only [qz]
 refine rg_nil (ek_next (wk_cond_t rfl (wk_skip (ek_next (wk_seq (wk_block (wk_seq ?_)))))))
 refine wk_region [0, 0, 0, 0, 0, 1] rfl Kx ?_
 simp only [qy]
 refine rf_load rfl rfl rfl Try.underlying3 rfl (fun w hw => (Kn.hd0 (Kn.tlU (Kn.tl (Kn.tl hw)))).at rfl) ?_
 simp only [qz]
 refine rf_sub (r := ((m + 1 : Nat) : Int)) rfl rfl rfl rfl (wrap_eq' Ox Ox Ox) ?_
 simp only [qz]
 refine rf_load rfl rfl rfl Try.underlying3 rfl (fun w hw => (Kn.hd0 (Kn.tl (Kn.tlU (Kn.tl (Kn.tl hw))))).at rfl) ?_
 simp only [qz]
 refine rf_load rfl rfl rfl Try.underlying3 rfl (fun w hw => (Kn.hd0 hw).at rfl) ?_
 simp only [qz]
 refine rf_sub (r := (t : Int)) rfl rfl rfl rfl (wrap_eq' Ox Ox Ox) ?_
 simp only [qz]
 apply rg_made (T := fun v u => ∃ gm2 gp2, v = .func (.func 118) #[] #[.pointer (some ⟨gm2, 0, none⟩), .pointer (some ⟨gp2, 0, none⟩)] ∧ u = [(gm2, .cells #[.int .i64 (((m + 1 : Nat) : Int))] 3), (gp2, .cells #[.int .i64 (t)] 3)]) Rx Kx
 case hargs => exact Ax
 case h => exact fun w hw => (patterns_any ((m + 1 : Nat) : Int) t w).mono (fun e w' ⟨gm2, gp2, he, hm⟩ => ⟨_, _, he, ⟨gm2, gp2, rfl, rfl⟩, hm⟩)
 case hz => exact Nz
 rintro _ _ ⟨gm2, gp2, rfl, rfl⟩
 simp only [List.cons_append, List.nil_append]
 simp only [qz]
 refine rg_nil (ek_next (wk_block ?_))
 refine wk_rangeFunc (f := 118) (caps := #[.pointer (some ⟨gm2, 0, none⟩), .pointer (some ⟨gp2, 0, none⟩)]) rfl Kx ?_
 intro fn dd lq w1 K1
 obtain ⟨r2, hr2⟩ := ex_loop K1
 rw [← hr2] at K1
 have K2 := K1.perm ((perm_at (l := [_, _, _, _]) (perm_at (l := [_, _, _]) (perm_atU (l := [_, _, _]) (u := uC) (perm_at (l := [_]) (perm_at (l := [_]) (List.Perm.refl _)))))).cons _)
 rw [as6] at K2
 have K3 := Kn.self (v := (_ :: _ :: _ :: uC) ++ [_, _]) (rest := _) K2
 have hlt := patsT_le (m := m) (p := p) (t := t) Ox
 have hR2 : RoundsP (pats (m + 1) t).length (m + 1) lq r2 (fun zs S => ∃ sC, S = (lq, .loop r2) :: (g1, .cells #[.func (.yield lp) #[] #[]] 57) :: (gF, .cells #[.int .i64 ((p : Int) - ((t : Nat) : Int))] 3) :: sC ∧ C ((ys ++ patsT (m + 1) p t) ++ zs.map (((p - t : Nat) : Int) :: ·)) sC) := by
  subst hr2
  refine ⟨rfl, fun zs S ⟨sC, e, _⟩ => by subst e; simp, ?_⟩
  intro R B F zs row uN v S uR w hl0 hl1 hzl ⟨uD, hS, hCz⟩ hO K
  subst hS
  simp only [List.cons_append] at K
  obtain ⟨av, cv, rfl, hcv⟩ := Own.val hO
  obtain ⟨ad, rfl, hAd⟩ := hO.addr hl0
  refine roundIn_kn (Rep.app _ (Rep.here _)) rfl ?_ K
  simp only [fold_zip1]
  simp only [qz]
  refine wk_region [0] rfl Kx ?_
  simp only [qy]
  refine rg_assign ?_
  simp only [qz]
  refine rg_nil ?_
  refine ek_asg ?_
  refine wk_block (wk_seq ?_)
  refine wk_rr Kx ?_
  refine rr_hard3 (i := 0) (j := 1) (k := 3) (f := 0) (g := 0) (e := 0) Kx rfl rfl rfl rfl rfl rfl ?_ ?_ ?_
  ·refine rf_load rfl rfl rfl Try.underlying57 rfl (fun w hw => (Kn.hd0 (Kn.tl (Kn.tlU hw))).at rfl) ?_
   simp only [qz]
   refine rg_nil ?_
   refine ek_rr ?_
   refine rr_hard2 (i := 1) (j := 3) (f := 0) (g := 0) Kx rfl rfl rfl rfl ?_ ?_
   ·refine rf_load rfl rfl rfl Try.underlying3 rfl (fun w hw => (Kn.hd0 (Kn.tl (Kn.tl (Kn.tlU hw)))).at rfl) ?_
    simp only [qz]
    refine rg_nil ?_
    refine ek_rr ?_
    refine rr_hard2 (i := 2) (j := 3) (f := 1) (g := 0) Kx rfl rfl rfl rfl ?_ ?_
    ·refine rg_newS (cs := ?_) (ty := ?_) (n := 1) (c := 1) Rx (fun w => ?_) Nz (fun g3 => ?_); rotate_left 2
     focus (go_simp; rfl)
     simp only [qz]
     refine rg_nil ?_
     refine ek_rr ?_
     refine rr_hard1 (i := 3) (f := 0) Kx rfl rfl ?_
     refine rg_move ?_
     simp only [qz]
     refine rg_nil ?_
     refine ek_rr ?_
     refine rr_hard1 (i := 4) (f := 1) Kx rfl rfl ?_
     refine rg_consZ (x := (p : Int) - ((t : Nat) : Int)) Rx rfl rfl (fun w hw => hAd hw (List.Sublist.cons _ (List.sublist_append_left _ _))) Ox hl0 (List.Perm.refl _) Nz (fun uP aP cP hOP => ?_)
     simp only [qz]
     refine rg_nil ?_
     refine ek_rr ?_
     refine rr_hard1 (i := 5) (f := 1) Kx rfl rfl ?_
     refine rg_yieldP hR hCz (by simp) (by simp; omega) (by simp only [List.length_append, List.length_map]; omega) hOP (((((((((((List.Perm.refl _).cons _).trans (List.perm_middle (l₁ := uD)).symm).cons _).trans (List.perm_middle (l₁ := uD)).symm).cons _).trans (List.perm_middle (l₁ := uD)).symm).append_left _).trans (List.perm_append_comm_assoc uN uD _)).trans ((List.Perm.refl _).append_left _)).append_left _) Rx rfl (by simp only [qm, qs, Act.eval, List.length_cons] <;> rfl) (fun uE hCE => ?_)
     simp only [qz]
     refine rg_nil ?_
     refine ek_rr ?_
     refine rr_hard1 (i := 6) (f := 0) Kx rfl rfl ?_
     refine rf_not rfl rfl rfl ?_
     simp only [qz]
     refine rg_nil ?_
     refine ek_rr ?_
     refine rr_nil Kx ?_
     refine ek_next (wk_cond_f rfl (wk_skip (ek_block ?_)))
     refine ek_sub (List.Sublist.append_left ((sc _ (sc _ (sc _ (List.Sublist.refl _)))).trans (List.sublist_append_right _ _)) _) ?_
     refine ek_perm ((((List.Perm.refl _).append_left _).trans (List.perm_middle (l₁ := uE))).trans (((((List.Perm.refl _).append_left _).trans (List.perm_middle (l₁ := uE))).trans (((((List.Perm.refl _).append_left _).trans (List.perm_middle (l₁ := uE))).trans ((List.Perm.refl _).cons _)).cons _)).cons _)) ?_
     refine ek_roundEnd (Rep.here _) (fun w hw => ⟨_, rfl, ⟨uE, rfl, ?_⟩, hw⟩)
     have h := hCE
     rw [show (p : Int) - ((t : Nat) : Int) = ((p - t : Nat) : Int) by omega] at h
     simpa [List.append_assoc] using h
    ·refine rg_move ?_
     simp only [qz]
     refine rg_nil ?_
     refine ek_rr ?_
     refine rr_hard1 (i := 2) (f := 1) Kx rfl rfl ?_
     refine rg_newS (cs := ?_) (ty := ?_) (n := 1) (c := 1) Rx (fun w => ?_) Nz (fun g4 => ?_); rotate_left 2
     focus (go_simp; rfl)
     simp only [qz]
     refine rg_nil ?_
     refine ek_rr ?_
     refine rr_hard1 (i := 4) (f := 1) Kx rfl rfl ?_
     refine rg_consZ (x := (p : Int) - ((t : Nat) : Int)) Rx rfl rfl (fun w hw => hAd hw (List.Sublist.cons _ (List.sublist_append_left _ _))) Ox hl0 (List.Perm.refl _) Nz (fun uP aP cP hOP => ?_)
     simp only [qz]
     refine rg_nil ?_
     refine ek_rr ?_
     refine rr_hard1 (i := 5) (f := 1) Kx rfl rfl ?_
     refine rg_yieldP hR hCz (by simp) (by simp; omega) (by simp only [List.length_append, List.length_map]; omega) hOP (((((((((((List.Perm.refl _).cons _).trans (List.perm_middle (l₁ := uD)).symm).cons _).trans (List.perm_middle (l₁ := uD)).symm).cons _).trans (List.perm_middle (l₁ := uD)).symm).append_left _).trans (List.perm_append_comm_assoc uN uD _)).trans ((List.Perm.refl _).append_left _)).append_left _) Rx rfl (by simp only [qm, qs, Act.eval, List.length_cons] <;> rfl) (fun uE hCE => ?_)
     simp only [qz]
     refine rg_nil ?_
     refine ek_rr ?_
     refine rr_hard1 (i := 6) (f := 0) Kx rfl rfl ?_
     refine rf_not rfl rfl rfl ?_
     simp only [qz]
     refine rg_nil ?_
     refine ek_rr ?_
     refine rr_nil Kx ?_
     refine ek_next (wk_cond_f rfl (wk_skip (ek_block ?_)))
     refine ek_sub (List.Sublist.append_left ((sc _ (sc _ (sc _ (List.Sublist.refl _)))).trans (List.sublist_append_right _ _)) _) ?_
     refine ek_perm ((((List.Perm.refl _).append_left _).trans (List.perm_middle (l₁ := uE))).trans (((((List.Perm.refl _).append_left _).trans (List.perm_middle (l₁ := uE))).trans (((((List.Perm.refl _).append_left _).trans (List.perm_middle (l₁ := uE))).trans ((List.Perm.refl _).cons _)).cons _)).cons _)) ?_
     refine ek_roundEnd (Rep.here _) (fun w hw => ⟨_, rfl, ⟨uE, rfl, ?_⟩, hw⟩)
     have h := hCE
     rw [show (p : Int) - ((t : Nat) : Int) = ((p - t : Nat) : Int) by omega] at h
     simpa [List.append_assoc] using h
   ·refine rg_move ?_
    simp only [qz]
    refine rg_nil ?_
    refine ek_rr ?_
    refine rr_hard1 (i := 1) (f := 0) Kx rfl rfl ?_
    refine rf_load rfl rfl rfl Try.underlying3 rfl (fun w hw => (Kn.hd0 (Kn.tl (Kn.tl (Kn.tlU hw)))).at rfl) ?_
    simp only [qz]
    refine rg_nil ?_
    refine ek_rr ?_
    refine rr_hard1 (i := 2) (f := 1) Kx rfl rfl ?_
    refine rg_newS (cs := ?_) (ty := ?_) (n := 1) (c := 1) Rx (fun w => ?_) Nz (fun g5 => ?_); rotate_left 2
    focus (go_simp; rfl)
    simp only [qz]
    refine rg_nil ?_
    refine ek_rr ?_
    refine rr_hard1 (i := 4) (f := 1) Kx rfl rfl ?_
    refine rg_consZ (x := (p : Int) - ((t : Nat) : Int)) Rx rfl rfl (fun w hw => hAd hw (List.Sublist.cons _ (List.sublist_append_left _ _))) Ox hl0 (List.Perm.refl _) Nz (fun uP aP cP hOP => ?_)
    simp only [qz]
    refine rg_nil ?_
    refine ek_rr ?_
    refine rr_hard1 (i := 5) (f := 1) Kx rfl rfl ?_
    refine rg_yieldP hR hCz (by simp) (by simp; omega) (by simp only [List.length_append, List.length_map]; omega) hOP (((((((((((List.Perm.refl _).cons _).trans (List.perm_middle (l₁ := uD)).symm).cons _).trans (List.perm_middle (l₁ := uD)).symm).cons _).trans (List.perm_middle (l₁ := uD)).symm).append_left _).trans (List.perm_append_comm_assoc uN uD _)).trans ((List.Perm.refl _).append_left _)).append_left _) Rx rfl (by simp only [qm, qs, Act.eval, List.length_cons] <;> rfl) (fun uE hCE => ?_)
    simp only [qz]
    refine rg_nil ?_
    refine ek_rr ?_
    refine rr_hard1 (i := 6) (f := 0) Kx rfl rfl ?_
    refine rf_not rfl rfl rfl ?_
    simp only [qz]
    refine rg_nil ?_
    refine ek_rr ?_
    refine rr_nil Kx ?_
    refine ek_next (wk_cond_f rfl (wk_skip (ek_block ?_)))
    refine ek_sub (List.Sublist.append_left ((sc _ (sc _ (sc _ (List.Sublist.refl _)))).trans (List.sublist_append_right _ _)) _) ?_
    refine ek_perm ((((List.Perm.refl _).append_left _).trans (List.perm_middle (l₁ := uE))).trans (((((List.Perm.refl _).append_left _).trans (List.perm_middle (l₁ := uE))).trans (((((List.Perm.refl _).append_left _).trans (List.perm_middle (l₁ := uE))).trans ((List.Perm.refl _).cons _)).cons _)).cons _)) ?_
    refine ek_roundEnd (Rep.here _) (fun w hw => ⟨_, rfl, ⟨uE, rfl, ?_⟩, hw⟩)
    have h := hCE
    rw [show (p : Int) - ((t : Nat) : Int) = ((p - t : Nat) : Int) by omega] at h
    simpa [List.append_assoc] using h
  ·refine rf_load rfl rfl rfl Try.underlying3 rfl (fun w hw => (Kn.hd0 (Kn.tl (Kn.tl (Kn.tlU hw)))).at rfl) ?_
   simp only [qz]
   refine rg_nil ?_
   refine ek_rr ?_
   refine rr_hard3 (i := 0) (j := 2) (k := 3) (f := 0) (g := 1) (e := 0) Kx rfl rfl rfl rfl rfl rfl ?_ ?_ ?_
   ·refine rf_load rfl rfl rfl Try.underlying57 rfl (fun w hw => (Kn.hd0 (Kn.tl (Kn.tlU hw))).at rfl) ?_
    simp only [qz]
    refine rg_nil ?_
    refine ek_rr ?_
    refine rr_hard2 (i := 2) (j := 3) (f := 1) (g := 0) Kx rfl rfl rfl rfl ?_ ?_
    ·refine rg_newS (cs := ?_) (ty := ?_) (n := 1) (c := 1) Rx (fun w => ?_) Nz (fun g6 => ?_); rotate_left 2
     focus (go_simp; rfl)
     simp only [qz]
     refine rg_nil ?_
     refine ek_rr ?_
     refine rr_hard1 (i := 3) (f := 0) Kx rfl rfl ?_
     refine rg_move ?_
     simp only [qz]
     refine rg_nil ?_
     refine ek_rr ?_
     refine rr_hard1 (i := 4) (f := 1) Kx rfl rfl ?_
     refine rg_consZ (x := (p : Int) - ((t : Nat) : Int)) Rx rfl rfl (fun w hw => hAd hw (List.Sublist.cons _ (List.sublist_append_left _ _))) Ox hl0 (List.Perm.refl _) Nz (fun uP aP cP hOP => ?_)
     simp only [qz]
     refine rg_nil ?_
     refine ek_rr ?_
     refine rr_hard1 (i := 5) (f := 1) Kx rfl rfl ?_
     refine rg_yieldP hR hCz (by simp) (by simp; omega) (by simp only [List.length_append, List.length_map]; omega) hOP (((((((((((List.Perm.refl _).cons _).trans (List.perm_middle (l₁ := uD)).symm).cons _).trans (List.perm_middle (l₁ := uD)).symm).cons _).trans (List.perm_middle (l₁ := uD)).symm).append_left _).trans (List.perm_append_comm_assoc uN uD _)).trans ((List.Perm.refl _).append_left _)).append_left _) Rx rfl (by simp only [qm, qs, Act.eval, List.length_cons] <;> rfl) (fun uE hCE => ?_)
     simp only [qz]
     refine rg_nil ?_
     refine ek_rr ?_
     refine rr_hard1 (i := 6) (f := 0) Kx rfl rfl ?_
     refine rf_not rfl rfl rfl ?_
     simp only [qz]
     refine rg_nil ?_
     refine ek_rr ?_
     refine rr_nil Kx ?_
     refine ek_next (wk_cond_f rfl (wk_skip (ek_block ?_)))
     refine ek_sub (List.Sublist.append_left ((sc _ (sc _ (sc _ (List.Sublist.refl _)))).trans (List.sublist_append_right _ _)) _) ?_
     refine ek_perm ((((List.Perm.refl _).append_left _).trans (List.perm_middle (l₁ := uE))).trans (((((List.Perm.refl _).append_left _).trans (List.perm_middle (l₁ := uE))).trans (((((List.Perm.refl _).append_left _).trans (List.perm_middle (l₁ := uE))).trans ((List.Perm.refl _).cons _)).cons _)).cons _)) ?_
     refine ek_roundEnd (Rep.here _) (fun w hw => ⟨_, rfl, ⟨uE, rfl, ?_⟩, hw⟩)
     have h := hCE
     rw [show (p : Int) - ((t : Nat) : Int) = ((p - t : Nat) : Int) by omega] at h
     simpa [List.append_assoc] using h
    ·refine rg_move ?_
     simp only [qz]
     refine rg_nil ?_
     refine ek_rr ?_
     refine rr_hard1 (i := 2) (f := 1) Kx rfl rfl ?_
     refine rg_newS (cs := ?_) (ty := ?_) (n := 1) (c := 1) Rx (fun w => ?_) Nz (fun g7 => ?_); rotate_left 2
     focus (go_simp; rfl)
     simp only [qz]
     refine rg_nil ?_
     refine ek_rr ?_
     refine rr_hard1 (i := 4) (f := 1) Kx rfl rfl ?_
     refine rg_consZ (x := (p : Int) - ((t : Nat) : Int)) Rx rfl rfl (fun w hw => hAd hw (List.Sublist.cons _ (List.sublist_append_left _ _))) Ox hl0 (List.Perm.refl _) Nz (fun uP aP cP hOP => ?_)
     simp only [qz]
     refine rg_nil ?_
     refine ek_rr ?_
     refine rr_hard1 (i := 5) (f := 1) Kx rfl rfl ?_
     refine rg_yieldP hR hCz (by simp) (by simp; omega) (by simp only [List.length_append, List.length_map]; omega) hOP (((((((((((List.Perm.refl _).cons _).trans (List.perm_middle (l₁ := uD)).symm).cons _).trans (List.perm_middle (l₁ := uD)).symm).cons _).trans (List.perm_middle (l₁ := uD)).symm).append_left _).trans (List.perm_append_comm_assoc uN uD _)).trans ((List.Perm.refl _).append_left _)).append_left _) Rx rfl (by simp only [qm, qs, Act.eval, List.length_cons] <;> rfl) (fun uE hCE => ?_)
     simp only [qz]
     refine rg_nil ?_
     refine ek_rr ?_
     refine rr_hard1 (i := 6) (f := 0) Kx rfl rfl ?_
     refine rf_not rfl rfl rfl ?_
     simp only [qz]
     refine rg_nil ?_
     refine ek_rr ?_
     refine rr_nil Kx ?_
     refine ek_next (wk_cond_f rfl (wk_skip (ek_block ?_)))
     refine ek_sub (List.Sublist.append_left ((sc _ (sc _ (sc _ (List.Sublist.refl _)))).trans (List.sublist_append_right _ _)) _) ?_
     refine ek_perm ((((List.Perm.refl _).append_left _).trans (List.perm_middle (l₁ := uE))).trans (((((List.Perm.refl _).append_left _).trans (List.perm_middle (l₁ := uE))).trans (((((List.Perm.refl _).append_left _).trans (List.perm_middle (l₁ := uE))).trans ((List.Perm.refl _).cons _)).cons _)).cons _)) ?_
     refine ek_roundEnd (Rep.here _) (fun w hw => ⟨_, rfl, ⟨uE, rfl, ?_⟩, hw⟩)
     have h := hCE
     rw [show (p : Int) - ((t : Nat) : Int) = ((p - t : Nat) : Int) by omega] at h
     simpa [List.append_assoc] using h
   ·refine rg_newS (cs := ?_) (ty := ?_) (n := 1) (c := 1) Rx (fun w => ?_) Nz (fun g8 => ?_); rotate_left 2
    focus (go_simp; rfl)
    simp only [qz]
    refine rg_nil ?_
    refine ek_rr ?_
    refine rr_hard2 (i := 0) (j := 3) (f := 0) (g := 0) Kx rfl rfl rfl rfl ?_ ?_
    ·refine rf_load rfl rfl rfl Try.underlying57 rfl (fun w hw => (Kn.hd0 (Kn.tl (Kn.tlU (Kn.tl hw)))).at rfl) ?_
     simp only [qz]
     refine rg_nil ?_
     refine ek_rr ?_
     refine rr_hard1 (i := 3) (f := 0) Kx rfl rfl ?_
     refine rg_move ?_
     simp only [qz]
     refine rg_nil ?_
     refine ek_rr ?_
     refine rr_hard1 (i := 4) (f := 1) Kx rfl rfl ?_
     refine rg_consZ (x := (p : Int) - ((t : Nat) : Int)) Rx rfl rfl (fun w hw => hAd hw (List.Sublist.cons _ (List.sublist_append_left _ _))) Ox hl0 (List.Perm.refl _) Nz (fun uP aP cP hOP => ?_)
     simp only [qz]
     refine rg_nil ?_
     refine ek_rr ?_
     refine rr_hard1 (i := 5) (f := 1) Kx rfl rfl ?_
     refine rg_yieldP hR hCz (by simp) (by simp; omega) (by simp only [List.length_append, List.length_map]; omega) hOP (((((((((((List.Perm.refl _).cons _).trans (List.perm_middle (l₁ := uD)).symm).cons _).trans (List.perm_middle (l₁ := uD)).symm).cons _).trans (List.perm_middle (l₁ := uD)).symm).append_left _).trans (List.perm_append_comm_assoc uN uD _)).trans ((List.Perm.refl _).append_left _)).append_left _) Rx rfl (by simp only [qm, qs, Act.eval, List.length_cons] <;> rfl) (fun uE hCE => ?_)
     simp only [qz]
     refine rg_nil ?_
     refine ek_rr ?_
     refine rr_hard1 (i := 6) (f := 0) Kx rfl rfl ?_
     refine rf_not rfl rfl rfl ?_
     simp only [qz]
     refine rg_nil ?_
     refine ek_rr ?_
     refine rr_nil Kx ?_
     refine ek_next (wk_cond_f rfl (wk_skip (ek_block ?_)))
     refine ek_sub (List.Sublist.append_left ((sc _ (sc _ (sc _ (List.Sublist.refl _)))).trans (List.sublist_append_right _ _)) _) ?_
     refine ek_perm ((((List.Perm.refl _).append_left _).trans (List.perm_middle (l₁ := uE))).trans (((((List.Perm.refl _).append_left _).trans (List.perm_middle (l₁ := uE))).trans (((((List.Perm.refl _).append_left _).trans (List.perm_middle (l₁ := uE))).trans ((List.Perm.refl _).cons _)).cons _)).cons _)) ?_
     refine ek_roundEnd (Rep.here _) (fun w hw => ⟨_, rfl, ⟨uE, rfl, ?_⟩, hw⟩)
     have h := hCE
     rw [show (p : Int) - ((t : Nat) : Int) = ((p - t : Nat) : Int) by omega] at h
     simpa [List.append_assoc] using h
    ·refine rg_move ?_
     simp only [qz]
     refine rg_nil ?_
     refine ek_rr ?_
     refine rr_hard2 (i := 0) (j := 4) (f := 0) (g := 1) Kx rfl rfl rfl rfl ?_ ?_
     ·refine rf_load rfl rfl rfl Try.underlying57 rfl (fun w hw => (Kn.hd0 (Kn.tl (Kn.tlU (Kn.tl hw)))).at rfl) ?_
      simp only [qz]
      refine rg_nil ?_
      refine ek_rr ?_
      refine rr_hard1 (i := 4) (f := 1) Kx rfl rfl ?_
      refine rg_consZ (x := (p : Int) - ((t : Nat) : Int)) Rx rfl rfl (fun w hw => hAd hw (List.Sublist.cons _ (List.sublist_append_left _ _))) Ox hl0 (List.Perm.refl _) Nz (fun uP aP cP hOP => ?_)
      simp only [qz]
      refine rg_nil ?_
      refine ek_rr ?_
      refine rr_hard1 (i := 5) (f := 1) Kx rfl rfl ?_
      refine rg_yieldP hR hCz (by simp) (by simp; omega) (by simp only [List.length_append, List.length_map]; omega) hOP (((((((((((List.Perm.refl _).cons _).trans (List.perm_middle (l₁ := uD)).symm).cons _).trans (List.perm_middle (l₁ := uD)).symm).cons _).trans (List.perm_middle (l₁ := uD)).symm).append_left _).trans (List.perm_append_comm_assoc uN uD _)).trans ((List.Perm.refl _).append_left _)).append_left _) Rx rfl (by simp only [qm, qs, Act.eval, List.length_cons] <;> rfl) (fun uE hCE => ?_)
      simp only [qz]
      refine rg_nil ?_
      refine ek_rr ?_
      refine rr_hard1 (i := 6) (f := 0) Kx rfl rfl ?_
      refine rf_not rfl rfl rfl ?_
      simp only [qz]
      refine rg_nil ?_
      refine ek_rr ?_
      refine rr_nil Kx ?_
      refine ek_next (wk_cond_f rfl (wk_skip (ek_block ?_)))
      refine ek_sub (List.Sublist.append_left ((sc _ (sc _ (sc _ (List.Sublist.refl _)))).trans (List.sublist_append_right _ _)) _) ?_
      refine ek_perm ((((List.Perm.refl _).append_left _).trans (List.perm_middle (l₁ := uE))).trans (((((List.Perm.refl _).append_left _).trans (List.perm_middle (l₁ := uE))).trans (((((List.Perm.refl _).append_left _).trans (List.perm_middle (l₁ := uE))).trans ((List.Perm.refl _).cons _)).cons _)).cons _)) ?_
      refine ek_roundEnd (Rep.here _) (fun w hw => ⟨_, rfl, ⟨uE, rfl, ?_⟩, hw⟩)
      have h := hCE
      rw [show (p : Int) - ((t : Nat) : Int) = ((p - t : Nat) : Int) by omega] at h
      simpa [List.append_assoc] using h
     ·refine rg_consZ (x := (p : Int) - ((t : Nat) : Int)) Rx rfl rfl (fun w hw => hAd hw (List.Sublist.cons _ (List.sublist_append_left _ _))) Ox hl0 (List.Perm.refl _) Nz (fun uP aP cP hOP => ?_)
      simp only [qz]
      refine rg_nil ?_
      refine ek_rr ?_
      refine rr_hard1 (i := 0) (f := 0) Kx rfl rfl ?_
      refine rf_load rfl rfl rfl Try.underlying57 rfl (fun w hw => (Kn.hd0 (Kn.tl (Kn.tlU (Kn.tlU hw)))).at rfl) ?_
      simp only [qz]
      refine rg_nil ?_
      refine ek_rr ?_
      refine rr_hard1 (i := 5) (f := 1) Kx rfl rfl ?_
      refine rg_yieldP hR hCz (by simp) (by simp; omega) (by simp only [List.length_append, List.length_map]; omega) hOP (((((((((((List.Perm.refl _).cons _).trans (List.perm_middle (l₁ := uD)).symm).cons _).trans (List.perm_middle (l₁ := uD)).symm).cons _).trans (List.perm_middle (l₁ := uD)).symm).append_left _).trans (List.perm_append_comm_assoc uN uD _)).trans ((List.Perm.refl _).append_left _)).append_left _) Rx rfl (by simp only [qm, qs, Act.eval, List.length_cons] <;> rfl) (fun uE hCE => ?_)
      simp only [qz]
      refine rg_nil ?_
      refine ek_rr ?_
      refine rr_hard1 (i := 6) (f := 0) Kx rfl rfl ?_
      refine rf_not rfl rfl rfl ?_
      simp only [qz]
      refine rg_nil ?_
      refine ek_rr ?_
      refine rr_nil Kx ?_
      refine ek_next (wk_cond_f rfl (wk_skip (ek_block ?_)))
      refine ek_sub (List.Sublist.append_left ((sc _ (sc _ (sc _ (List.Sublist.refl _)))).trans (List.sublist_append_right _ _)) _) ?_
      refine ek_perm ((((List.Perm.refl _).append_left _).trans (List.perm_middle (l₁ := uE))).trans (((((List.Perm.refl _).append_left _).trans (List.perm_middle (l₁ := uE))).trans (((((List.Perm.refl _).append_left _).trans (List.perm_middle (l₁ := uE))).trans ((List.Perm.refl _).cons _)).cons _)).cons _)) ?_
      refine ek_roundEnd (Rep.here _) (fun w hw => ⟨_, rfl, ⟨uE, rfl, ?_⟩, hw⟩)
      have h := hCE
      rw [show (p : Int) - ((t : Nat) : Int) = ((p - t : Nat) : Int) by omega] at h
      simpa [List.append_assoc] using h
   ·refine rg_move ?_
    simp only [qz]
    refine rg_nil ?_
    refine ek_rr ?_
    refine rr_hard2 (i := 0) (j := 2) (f := 0) (g := 1) Kx rfl rfl rfl rfl ?_ ?_
    ·refine rf_load rfl rfl rfl Try.underlying57 rfl (fun w hw => (Kn.hd0 (Kn.tl (Kn.tlU hw))).at rfl) ?_
     simp only [qz]
     refine rg_nil ?_
     refine ek_rr ?_
     refine rr_hard1 (i := 2) (f := 1) Kx rfl rfl ?_
     refine rg_newS (cs := ?_) (ty := ?_) (n := 1) (c := 1) Rx (fun w => ?_) Nz (fun g9 => ?_); rotate_left 2
     focus (go_simp; rfl)
     simp only [qz]
     refine rg_nil ?_
     refine ek_rr ?_
     refine rr_hard1 (i := 4) (f := 1) Kx rfl rfl ?_
     refine rg_consZ (x := (p : Int) - ((t : Nat) : Int)) Rx rfl rfl (fun w hw => hAd hw (List.Sublist.cons _ (List.sublist_append_left _ _))) Ox hl0 (List.Perm.refl _) Nz (fun uP aP cP hOP => ?_)
     simp only [qz]
     refine rg_nil ?_
     refine ek_rr ?_
     refine rr_hard1 (i := 5) (f := 1) Kx rfl rfl ?_
     refine rg_yieldP hR hCz (by simp) (by simp; omega) (by simp only [List.length_append, List.length_map]; omega) hOP (((((((((((List.Perm.refl _).cons _).trans (List.perm_middle (l₁ := uD)).symm).cons _).trans (List.perm_middle (l₁ := uD)).symm).cons _).trans (List.perm_middle (l₁ := uD)).symm).append_left _).trans (List.perm_append_comm_assoc uN uD _)).trans ((List.Perm.refl _).append_left _)).append_left _) Rx rfl (by simp only [qm, qs, Act.eval, List.length_cons] <;> rfl) (fun uE hCE => ?_)
     simp only [qz]
     refine rg_nil ?_
     refine ek_rr ?_
     refine rr_hard1 (i := 6) (f := 0) Kx rfl rfl ?_
     refine rf_not rfl rfl rfl ?_
     simp only [qz]
     refine rg_nil ?_
     refine ek_rr ?_
     refine rr_nil Kx ?_
     refine ek_next (wk_cond_f rfl (wk_skip (ek_block ?_)))
     refine ek_sub (List.Sublist.append_left ((sc _ (sc _ (sc _ (List.Sublist.refl _)))).trans (List.sublist_append_right _ _)) _) ?_
     refine ek_perm ((((List.Perm.refl _).append_left _).trans (List.perm_middle (l₁ := uE))).trans (((((List.Perm.refl _).append_left _).trans (List.perm_middle (l₁ := uE))).trans (((((List.Perm.refl _).append_left _).trans (List.perm_middle (l₁ := uE))).trans ((List.Perm.refl _).cons _)).cons _)).cons _)) ?_
     refine ek_roundEnd (Rep.here _) (fun w hw => ⟨_, rfl, ⟨uE, rfl, ?_⟩, hw⟩)
     have h := hCE
     rw [show (p : Int) - ((t : Nat) : Int) = ((p - t : Nat) : Int) by omega] at h
     simpa [List.append_assoc] using h
    ·refine rg_newS (cs := ?_) (ty := ?_) (n := 1) (c := 1) Rx (fun w => ?_) Nz (fun g10 => ?_); rotate_left 2
     focus (go_simp; rfl)
     simp only [qz]
     refine rg_nil ?_
     refine ek_rr ?_
     refine rr_hard2 (i := 0) (j := 4) (f := 0) (g := 1) Kx rfl rfl rfl rfl ?_ ?_
     ·refine rf_load rfl rfl rfl Try.underlying57 rfl (fun w hw => (Kn.hd0 (Kn.tl (Kn.tlU (Kn.tl hw)))).at rfl) ?_
      simp only [qz]
      refine rg_nil ?_
      refine ek_rr ?_
      refine rr_hard1 (i := 4) (f := 1) Kx rfl rfl ?_
      refine rg_consZ (x := (p : Int) - ((t : Nat) : Int)) Rx rfl rfl (fun w hw => hAd hw (List.Sublist.cons _ (List.sublist_append_left _ _))) Ox hl0 (List.Perm.refl _) Nz (fun uP aP cP hOP => ?_)
      simp only [qz]
      refine rg_nil ?_
      refine ek_rr ?_
      refine rr_hard1 (i := 5) (f := 1) Kx rfl rfl ?_
      refine rg_yieldP hR hCz (by simp) (by simp; omega) (by simp only [List.length_append, List.length_map]; omega) hOP (((((((((((List.Perm.refl _).cons _).trans (List.perm_middle (l₁ := uD)).symm).cons _).trans (List.perm_middle (l₁ := uD)).symm).cons _).trans (List.perm_middle (l₁ := uD)).symm).append_left _).trans (List.perm_append_comm_assoc uN uD _)).trans ((List.Perm.refl _).append_left _)).append_left _) Rx rfl (by simp only [qm, qs, Act.eval, List.length_cons] <;> rfl) (fun uE hCE => ?_)
      simp only [qz]
      refine rg_nil ?_
      refine ek_rr ?_
      refine rr_hard1 (i := 6) (f := 0) Kx rfl rfl ?_
      refine rf_not rfl rfl rfl ?_
      simp only [qz]
      refine rg_nil ?_
      refine ek_rr ?_
      refine rr_nil Kx ?_
      refine ek_next (wk_cond_f rfl (wk_skip (ek_block ?_)))
      refine ek_sub (List.Sublist.append_left ((sc _ (sc _ (sc _ (List.Sublist.refl _)))).trans (List.sublist_append_right _ _)) _) ?_
      refine ek_perm ((((List.Perm.refl _).append_left _).trans (List.perm_middle (l₁ := uE))).trans (((((List.Perm.refl _).append_left _).trans (List.perm_middle (l₁ := uE))).trans (((((List.Perm.refl _).append_left _).trans (List.perm_middle (l₁ := uE))).trans ((List.Perm.refl _).cons _)).cons _)).cons _)) ?_
      refine ek_roundEnd (Rep.here _) (fun w hw => ⟨_, rfl, ⟨uE, rfl, ?_⟩, hw⟩)
      have h := hCE
      rw [show (p : Int) - ((t : Nat) : Int) = ((p - t : Nat) : Int) by omega] at h
      simpa [List.append_assoc] using h
     ·refine rg_consZ (x := (p : Int) - ((t : Nat) : Int)) Rx rfl rfl (fun w hw => hAd hw (List.Sublist.cons _ (List.sublist_append_left _ _))) Ox hl0 (List.Perm.refl _) Nz (fun uP aP cP hOP => ?_)
      simp only [qz]
      refine rg_nil ?_
      refine ek_rr ?_
      refine rr_hard1 (i := 0) (f := 0) Kx rfl rfl ?_
      refine rf_load rfl rfl rfl Try.underlying57 rfl (fun w hw => (Kn.hd0 (Kn.tl (Kn.tlU (Kn.tlU hw)))).at rfl) ?_
      simp only [qz]
      refine rg_nil ?_
      refine ek_rr ?_
      refine rr_hard1 (i := 5) (f := 1) Kx rfl rfl ?_
      refine rg_yieldP hR hCz (by simp) (by simp; omega) (by simp only [List.length_append, List.length_map]; omega) hOP (((((((((((List.Perm.refl _).cons _).trans (List.perm_middle (l₁ := uD)).symm).cons _).trans (List.perm_middle (l₁ := uD)).symm).cons _).trans (List.perm_middle (l₁ := uD)).symm).append_left _).trans (List.perm_append_comm_assoc uN uD _)).trans ((List.Perm.refl _).append_left _)).append_left _) Rx rfl (by simp only [qm, qs, Act.eval, List.length_cons] <;> rfl) (fun uE hCE => ?_)
      simp only [qz]
      refine rg_nil ?_
      refine ek_rr ?_
      refine rr_hard1 (i := 6) (f := 0) Kx rfl rfl ?_
      refine rf_not rfl rfl rfl ?_
      simp only [qz]
      refine rg_nil ?_
      refine ek_rr ?_
      refine rr_nil Kx ?_
      refine ek_next (wk_cond_f rfl (wk_skip (ek_block ?_)))
      refine ek_sub (List.Sublist.append_left ((sc _ (sc _ (sc _ (List.Sublist.refl _)))).trans (List.sublist_append_right _ _)) _) ?_
      refine ek_perm ((((List.Perm.refl _).append_left _).trans (List.perm_middle (l₁ := uE))).trans (((((List.Perm.refl _).append_left _).trans (List.perm_middle (l₁ := uE))).trans (((((List.Perm.refl _).append_left _).trans (List.perm_middle (l₁ := uE))).trans ((List.Perm.refl _).cons _)).cons _)).cons _)) ?_
      refine ek_roundEnd (Rep.here _) (fun w hw => ⟨_, rfl, ⟨uE, rfl, ?_⟩, hw⟩)
      have h := hCE
      rw [show (p : Int) - ((t : Nat) : Int) = ((p - t : Nat) : Int) by omega] at h
      simpa [List.append_assoc] using h
  ·refine rg_move ?_
   simp only [qz]
   refine rg_nil ?_
   refine ek_rr ?_
   refine rr_hard2 (i := 0) (j := 1) (f := 0) (g := 0) Kx rfl rfl rfl rfl ?_ ?_
   ·refine rf_load rfl rfl rfl Try.underlying57 rfl (fun w hw => (Kn.hd0 (Kn.tl (Kn.tlU hw))).at rfl) ?_
    simp only [qz]
    refine rg_nil ?_
    refine ek_rr ?_
    refine rr_hard1 (i := 1) (f := 0) Kx rfl rfl ?_
    refine rf_load rfl rfl rfl Try.underlying3 rfl (fun w hw => (Kn.hd0 (Kn.tl (Kn.tl (Kn.tlU hw)))).at rfl) ?_
    simp only [qz]
    refine rg_nil ?_
    refine ek_rr ?_
    refine rr_hard1 (i := 2) (f := 1) Kx rfl rfl ?_
    refine rg_newS (cs := ?_) (ty := ?_) (n := 1) (c := 1) Rx (fun w => ?_) Nz (fun g11 => ?_); rotate_left 2
    focus (go_simp; rfl)
    simp only [qz]
    refine rg_nil ?_
    refine ek_rr ?_
    refine rr_hard1 (i := 4) (f := 1) Kx rfl rfl ?_
    refine rg_consZ (x := (p : Int) - ((t : Nat) : Int)) Rx rfl rfl (fun w hw => hAd hw (List.Sublist.cons _ (List.sublist_append_left _ _))) Ox hl0 (List.Perm.refl _) Nz (fun uP aP cP hOP => ?_)
    simp only [qz]
    refine rg_nil ?_
    refine ek_rr ?_
    refine rr_hard1 (i := 5) (f := 1) Kx rfl rfl ?_
    refine rg_yieldP hR hCz (by simp) (by simp; omega) (by simp only [List.length_append, List.length_map]; omega) hOP (((((((((((List.Perm.refl _).cons _).trans (List.perm_middle (l₁ := uD)).symm).cons _).trans (List.perm_middle (l₁ := uD)).symm).cons _).trans (List.perm_middle (l₁ := uD)).symm).append_left _).trans (List.perm_append_comm_assoc uN uD _)).trans ((List.Perm.refl _).append_left _)).append_left _) Rx rfl (by simp only [qm, qs, Act.eval, List.length_cons] <;> rfl) (fun uE hCE => ?_)
    simp only [qz]
    refine rg_nil ?_
    refine ek_rr ?_
    refine rr_hard1 (i := 6) (f := 0) Kx rfl rfl ?_
    refine rf_not rfl rfl rfl ?_
    simp only [qz]
    refine rg_nil ?_
    refine ek_rr ?_
    refine rr_nil Kx ?_
    refine ek_next (wk_cond_f rfl (wk_skip (ek_block ?_)))
    refine ek_sub (List.Sublist.append_left ((sc _ (sc _ (sc _ (List.Sublist.refl _)))).trans (List.sublist_append_right _ _)) _) ?_
    refine ek_perm ((((List.Perm.refl _).append_left _).trans (List.perm_middle (l₁ := uE))).trans (((((List.Perm.refl _).append_left _).trans (List.perm_middle (l₁ := uE))).trans (((((List.Perm.refl _).append_left _).trans (List.perm_middle (l₁ := uE))).trans ((List.Perm.refl _).cons _)).cons _)).cons _)) ?_
    refine ek_roundEnd (Rep.here _) (fun w hw => ⟨_, rfl, ⟨uE, rfl, ?_⟩, hw⟩)
    have h := hCE
    rw [show (p : Int) - ((t : Nat) : Int) = ((p - t : Nat) : Int) by omega] at h
    simpa [List.append_assoc] using h
   ·refine rf_load rfl rfl rfl Try.underlying3 rfl (fun w hw => (Kn.hd0 (Kn.tl (Kn.tl (Kn.tlU hw)))).at rfl) ?_
    simp only [qz]
    refine rg_nil ?_
    refine ek_rr ?_
    refine rr_hard2 (i := 0) (j := 2) (f := 0) (g := 1) Kx rfl rfl rfl rfl ?_ ?_
    ·refine rf_load rfl rfl rfl Try.underlying57 rfl (fun w hw => (Kn.hd0 (Kn.tl (Kn.tlU hw))).at rfl) ?_
     simp only [qz]
     refine rg_nil ?_
     refine ek_rr ?_
     refine rr_hard1 (i := 2) (f := 1) Kx rfl rfl ?_
     refine rg_newS (cs := ?_) (ty := ?_) (n := 1) (c := 1) Rx (fun w => ?_) Nz (fun g12 => ?_); rotate_left 2
     focus (go_simp; rfl)
     simp only [qz]
     refine rg_nil ?_
     refine ek_rr ?_
     refine rr_hard1 (i := 4) (f := 1) Kx rfl rfl ?_
     refine rg_consZ (x := (p : Int) - ((t : Nat) : Int)) Rx rfl rfl (fun w hw => hAd hw (List.Sublist.cons _ (List.sublist_append_left _ _))) Ox hl0 (List.Perm.refl _) Nz (fun uP aP cP hOP => ?_)
     simp only [qz]
     refine rg_nil ?_
     refine ek_rr ?_
     refine rr_hard1 (i := 5) (f := 1) Kx rfl rfl ?_
     refine rg_yieldP hR hCz (by simp) (by simp; omega) (by simp only [List.length_append, List.length_map]; omega) hOP (((((((((((List.Perm.refl _).cons _).trans (List.perm_middle (l₁ := uD)).symm).cons _).trans (List.perm_middle (l₁ := uD)).symm).cons _).trans (List.perm_middle (l₁ := uD)).symm).append_left _).trans (List.perm_append_comm_assoc uN uD _)).trans ((List.Perm.refl _).append_left _)).append_left _) Rx rfl (by simp only [qm, qs, Act.eval, List.length_cons] <;> rfl) (fun uE hCE => ?_)
     simp only [qz]
     refine rg_nil ?_
     refine ek_rr ?_
     refine rr_hard1 (i := 6) (f := 0) Kx rfl rfl ?_
     refine rf_not rfl rfl rfl ?_
     simp only [qz]
     refine rg_nil ?_
     refine ek_rr ?_
     refine rr_nil Kx ?_
     refine ek_next (wk_cond_f rfl (wk_skip (ek_block ?_)))
     refine ek_sub (List.Sublist.append_left ((sc _ (sc _ (sc _ (List.Sublist.refl _)))).trans (List.sublist_append_right _ _)) _) ?_
     refine ek_perm ((((List.Perm.refl _).append_left _).trans (List.perm_middle (l₁ := uE))).trans (((((List.Perm.refl _).append_left _).trans (List.perm_middle (l₁ := uE))).trans (((((List.Perm.refl _).append_left _).trans (List.perm_middle (l₁ := uE))).trans ((List.Perm.refl _).cons _)).cons _)).cons _)) ?_
     refine ek_roundEnd (Rep.here _) (fun w hw => ⟨_, rfl, ⟨uE, rfl, ?_⟩, hw⟩)
     have h := hCE
     rw [show (p : Int) - ((t : Nat) : Int) = ((p - t : Nat) : Int) by omega] at h
     simpa [List.append_assoc] using h
    ·refine rg_newS (cs := ?_) (ty := ?_) (n := 1) (c := 1) Rx (fun w => ?_) Nz (fun g13 => ?_); rotate_left 2
     focus (go_simp; rfl)
     simp only [qz]
     refine rg_nil ?_
     refine ek_rr ?_
     refine rr_hard2 (i := 0) (j := 4) (f := 0) (g := 1) Kx rfl rfl rfl rfl ?_ ?_
     ·refine rf_load rfl rfl rfl Try.underlying57 rfl (fun w hw => (Kn.hd0 (Kn.tl (Kn.tlU (Kn.tl hw)))).at rfl) ?_
      simp only [qz]
      refine rg_nil ?_
      refine ek_rr ?_
      refine rr_hard1 (i := 4) (f := 1) Kx rfl rfl ?_
      refine rg_consZ (x := (p : Int) - ((t : Nat) : Int)) Rx rfl rfl (fun w hw => hAd hw (List.Sublist.cons _ (List.sublist_append_left _ _))) Ox hl0 (List.Perm.refl _) Nz (fun uP aP cP hOP => ?_)
      simp only [qz]
      refine rg_nil ?_
      refine ek_rr ?_
      refine rr_hard1 (i := 5) (f := 1) Kx rfl rfl ?_
      refine rg_yieldP hR hCz (by simp) (by simp; omega) (by simp only [List.length_append, List.length_map]; omega) hOP (((((((((((List.Perm.refl _).cons _).trans (List.perm_middle (l₁ := uD)).symm).cons _).trans (List.perm_middle (l₁ := uD)).symm).cons _).trans (List.perm_middle (l₁ := uD)).symm).append_left _).trans (List.perm_append_comm_assoc uN uD _)).trans ((List.Perm.refl _).append_left _)).append_left _) Rx rfl (by simp only [qm, qs, Act.eval, List.length_cons] <;> rfl) (fun uE hCE => ?_)
      simp only [qz]
      refine rg_nil ?_
      refine ek_rr ?_
      refine rr_hard1 (i := 6) (f := 0) Kx rfl rfl ?_
      refine rf_not rfl rfl rfl ?_
      simp only [qz]
      refine rg_nil ?_
      refine ek_rr ?_
      refine rr_nil Kx ?_
      refine ek_next (wk_cond_f rfl (wk_skip (ek_block ?_)))
      refine ek_sub (List.Sublist.append_left ((sc _ (sc _ (sc _ (List.Sublist.refl _)))).trans (List.sublist_append_right _ _)) _) ?_
      refine ek_perm ((((List.Perm.refl _).append_left _).trans (List.perm_middle (l₁ := uE))).trans (((((List.Perm.refl _).append_left _).trans (List.perm_middle (l₁ := uE))).trans (((((List.Perm.refl _).append_left _).trans (List.perm_middle (l₁ := uE))).trans ((List.Perm.refl _).cons _)).cons _)).cons _)) ?_
      refine ek_roundEnd (Rep.here _) (fun w hw => ⟨_, rfl, ⟨uE, rfl, ?_⟩, hw⟩)
      have h := hCE
      rw [show (p : Int) - ((t : Nat) : Int) = ((p - t : Nat) : Int) by omega] at h
      simpa [List.append_assoc] using h
     ·refine rg_consZ (x := (p : Int) - ((t : Nat) : Int)) Rx rfl rfl (fun w hw => hAd hw (List.Sublist.cons _ (List.sublist_append_left _ _))) Ox hl0 (List.Perm.refl _) Nz (fun uP aP cP hOP => ?_)
      simp only [qz]
      refine rg_nil ?_
      refine ek_rr ?_
      refine rr_hard1 (i := 0) (f := 0) Kx rfl rfl ?_
      refine rf_load rfl rfl rfl Try.underlying57 rfl (fun w hw => (Kn.hd0 (Kn.tl (Kn.tlU (Kn.tlU hw)))).at rfl) ?_
      simp only [qz]
      refine rg_nil ?_
      refine ek_rr ?_
      refine rr_hard1 (i := 5) (f := 1) Kx rfl rfl ?_
      refine rg_yieldP hR hCz (by simp) (by simp; omega) (by simp only [List.length_append, List.length_map]; omega) hOP (((((((((((List.Perm.refl _).cons _).trans (List.perm_middle (l₁ := uD)).symm).cons _).trans (List.perm_middle (l₁ := uD)).symm).cons _).trans (List.perm_middle (l₁ := uD)).symm).append_left _).trans (List.perm_append_comm_assoc uN uD _)).trans ((List.Perm.refl _).append_left _)).append_left _) Rx rfl (by simp only [qm, qs, Act.eval, List.length_cons] <;> rfl) (fun uE hCE => ?_)
      simp only [qz]
      refine rg_nil ?_
      refine ek_rr ?_
      refine rr_hard1 (i := 6) (f := 0) Kx rfl rfl ?_
      refine rf_not rfl rfl rfl ?_
      simp only [qz]
      refine rg_nil ?_
      refine ek_rr ?_
      refine rr_nil Kx ?_
      refine ek_next (wk_cond_f rfl (wk_skip (ek_block ?_)))
      refine ek_sub (List.Sublist.append_left ((sc _ (sc _ (sc _ (List.Sublist.refl _)))).trans (List.sublist_append_right _ _)) _) ?_
      refine ek_perm ((((List.Perm.refl _).append_left _).trans (List.perm_middle (l₁ := uE))).trans (((((List.Perm.refl _).append_left _).trans (List.perm_middle (l₁ := uE))).trans (((((List.Perm.refl _).append_left _).trans (List.perm_middle (l₁ := uE))).trans ((List.Perm.refl _).cons _)).cons _)).cons _)) ?_
      refine ek_roundEnd (Rep.here _) (fun w hw => ⟨_, rfl, ⟨uE, rfl, ?_⟩, hw⟩)
      have h := hCE
      rw [show (p : Int) - ((t : Nat) : Int) = ((p - t : Nat) : Int) by omega] at h
      simpa [List.append_assoc] using h
 have hpend : r2.pending = none := by subst hr2; rfl
 have hst : r2.state ≠ .busy := by (subst hr2; simp)
 clear hr2
 refine (IH t lq gm2 gp2 _ r2 _ [] _ w1 _ Ox (by simp) hR2 ⟨uC, rfl, by simpa using hC⟩ K3).mono ?_
 rintro e w2 ⟨rfl, sS, u2, ⟨uD, rfl, hCD⟩, hK⟩
 have K4 := Kn.effApp (v := (_ :: _ :: _ :: uC) ++ [_, _]) (rest := _) K2 hK
 simp only [List.cons_append, List.append_assoc, List.nil_append] at K4
 refine ⟨_, _, r2, _, rfl, K4, Rep.here _, hst, ?_⟩
 rw [hpend]
 simp only [List.nil_append] at hCD
 refine ek_block (ek_block (ek_next (wk_seq (wk_seq ?_))))
 refine wk_region [0] rfl Kx ?_
 simp only [qy]
 refine rf_load rfl rfl rfl Try.underlying3 rfl (fun w hw => (Kn.hd0 (Kn.tl (Kn.tl hw))).at rfl) ?_
 simp only [qz]
 refine rg_nil (ek_next ?_)
 refine wk_region [1, 1] rfl Kx ?_
 simp only [qy]
 refine Rgn fun g3 => ?_
 simp only [qz]
 refine rf_store rfl rfl Kx rfl rfl (UpdR.here _ _ _ Nl) Nz ?_
 simp only [qz]
 refine rg_nil (ek_next ?_)
 refine wk_region [0, 0, 1] rfl Kx ?_
 simp only [qy]
 refine rf_load rfl rfl rfl Try.underlying3 rfl (fun w hw => (Kn.hd0 hw).at rfl) ?_
 simp only [qz]
 refine rf_sub (r := (p : Int) - ((t + 1 : Nat) : Int)) rfl rfl rfl rfl (wrap_eq' Ox Ox Ox) ?_
 simp only [qz]
 refine rf_store rfl rfl Kx rfl rfl (UpdR.here _ _ _ Nl) Nz ?_
 simp only [qz]
 refine rg_nil ?_
 refine ek_sub (sc _ (sk _ (sc _ (sk _ (List.Sublist.append_left ((sc _ (sc _ (sc _ (List.Sublist.append_left sn _)))).trans (List.sublist_append_right _ _)) _))))) ?_
 refine ek_perm ((((perm_at (l := [_]) (perm_at (l := [_]) (List.Perm.refl _))).append_left _).cons _).cons _) ?_
 refine ek_roundD (p + 1 - (t + 1)) Ox Kx ?_
 exact ⟨t + 1, dd :: dl, uD, g3, rfl, rfl, rfl, rfl, by omega, (by have h := hCD; simpa [patsT, List.append_assoc] using h)⟩
theorem pat_all : ∀ m, m + 1 ≤ 6 → PatC (m + 1)
  | 0, _ => pat_one
  | m + 1, h => pat_step Ox (pat_all m Ox)
theorem pats_tab : ((List.range 7).all fun m => (List.range 6).all fun p => decide ((pats m p).length ≤ 1000)) = true := by kernel_rfl
theorem pats_small {m p : Nat} (hm : m ≤ 6) (hp : p ≤ 5) : (pats m p).length ≤ 1000 :=
  of_decide_eq_true (List.all_eq_true.1 (List.all_eq_true.1 pats_tab m (List.mem_range.2 Ox)) p (List.mem_range.2 Ox))
theorem appendSeq_any (m p : Nat) (hm : m + 1 ≤ 6) (hp : p ≤ 5) (gm gp : Nat) (w : World) (F : List Nat) (K : Kn w F [(gm, .cells #[.int .i64 ((m + 1 : Nat) : Int)] 3), (gp, .cells #[.int .i64 p] 3)] w) : Calls Try.prog 117 #[.slice none 0 0, .func (.func 118) #[] #[.pointer (some ⟨gm, 0, none⟩), .pointer (some ⟨gp, 0, none⟩)]] w fun e w' => ∃ v U, e = .returned v ∧ OwnL U v (pats (m + 1) p) ∧ Kn w F U w' := by
 have hsm := pats_small (m := m + 1) (p := p) Ox hp
 refine calls_marksF K Try.func117 rfl ?_
 simp only [Try.ntmps117, List.size_toArray, List.length_cons, List.length_nil, Nat.reduceAdd, Nat.reduceSub, Array.replicate_succ, Array.replicate_zero, List.push_toArray, List.append_toArray, List.nil_append, List.cons_append]
 refine wk_seq ?_
 refine wk_region [1, 0] rfl Kx ?_
 simp only [qy]
 refine Rgn fun g1 => ?_
 simp only [qz]
 refine rg_assign ?_
 simp only [qz]
 refine rg_nil (ek_next (wk_seq (wk_seq ?_)))
 refine wk_region [0] rfl Kx ?_
 simp only [qy]
 refine rg_move ?_
 simp only [qz]
 refine rg_nil (ek_next (wk_block ?_))
 refine wk_rangeFunc (f := 118) (caps := #[.pointer (some ⟨gm, 0, none⟩), .pointer (some ⟨gp, 0, none⟩)]) rfl Kx ?_
 intro fn dd lq w1 K1
 obtain ⟨r2, hr2⟩ := ex_loop K1
 rw [← hr2] at K1
 have K2 := K1.perm ((perm_at (l := [_]) (perm_at (l := [_]) (perm_at (l := [_]) (List.Perm.refl _)))).cons _)
 have K3 := Kn.self (v := (_ :: _ :: ([] : List Blk)) ++ [_, _]) (rest := [_]) K2
 have hR2 : RoundsP (pats (m + 1) p).length (m + 1) lq r2 (fun ys S => ∃ uT uS hs v, S = (lq, .loop r2) :: (g1, .cells #[v] 33) :: (uT ++ uS) ∧ Own 37 1 uT v ys.length hs ∧ RowsZ uS hs ys) := by
  subst hr2
  refine ⟨rfl, fun ys S ⟨_, _, _, _, e, _⟩ => by subst e; simp, ?_⟩
  intro R B F ys row uN v S uR w hl0 hl1 hyl ⟨uT, uS, hs, vT, hS, hOT, hRS⟩ hO K
  clear hl1
  subst hS
  simp only [List.cons_append, List.append_assoc] at K
  obtain ⟨av, cv, rfl, hcv⟩ := Own.val hO
  obtain ⟨aT, cT, rfl, hcT⟩ := Own.val hOT
  refine roundIn_kn (Rep.app _ (Rep.here _)) rfl ?_ K
  simp only [fold_zip1]
  simp only [qz]
  refine wk_region [0] rfl Kx ?_
  simp only [qy]
  refine rg_assign ?_
  simp only [qz]
  refine rg_nil ?_
  refine ek_asg ?_
  refine wk_block ?_
  refine wk_region [0, 0, 1, 1, 1] rfl Kx ?_
  simp only [qy]
  refine rf_load rfl rfl rfl Try.underlying33 rfl (fun w hw => (Kn.hd0 (Kn.tl (Kn.tlU hw))).at rfl) ?_
  simp only [qz]
  refine rg_move ?_
  simp only [qz]
  refine rg_newS (cs := ?_) (ty := ?_) (n := 1) (c := 1) Rx (fun w => ?_) Nz (fun g2 => ?_); rotate_left 2
  focus (go_simp; rfl)
  simp only [qz]
  refine rg_appL (h := .slice av row.length cv) Rx rfl hOT rfl Ox rfl ((((((((((List.Perm.refl _).cons _).trans (List.perm_middle (l₁ := uT)).symm).cons _).trans (List.perm_middle (l₁ := uT)).symm).append_left _).trans (List.perm_append_comm_assoc uN uT _)).cons _).trans (List.perm_middle (l₁ := uT)).symm).trans ((List.Perm.refl _).append_left _)) (fun w hw => Kn.hd0 hw) Nz (fun uP aP cP hOP => ?_)
  simp only [qz]
  refine rf_store rfl rfl Kx rfl rfl (UpdR.app _ (UpdR.there _ (UpdR.app _ (UpdR.there _ (UpdR.here _ _ _ Nl))))) Nz ?_
  simp only [qz]
  refine rg_nil (ek_block ?_)
  refine ek_sub (List.Sublist.append_left (sk _ (List.Sublist.append_left (sc _ (sc _ (List.Sublist.append_left (List.Sublist.refl _) _))) _)) _) ?_
  refine ek_perm ((((((List.Perm.refl _).append_left _).trans (List.perm_middle (l₁ := uN))).append_left _).trans (List.perm_middle (l₁ := uP))).trans (((((((List.Perm.refl _).append_left _).trans (List.perm_middle (l₁ := uN))).append_left _).trans (List.perm_middle (l₁ := uP))).trans ((List.Perm.refl _).cons _)).cons _)) ?_
  refine ek_roundEnd (Rep.here _) (fun w hw => ⟨_, rfl, ⟨uP, uN ++ uS, _, _, rfl, (by rw [List.length_append]; exact hOP), hRS.snoc hO⟩, ?_⟩)
  simpa [List.append_assoc] using hw
 have hpend : r2.pending = none := by subst hr2; rfl
 have hst : r2.state ≠ .busy := by (subst hr2; simp)
 clear hr2
 refine (pat_all m Ox p lq gm gp _ r2 _ [] _ w1 _ hp (by simp) hR2 ⟨[], [], [], _, rfl, Own.nil _ _, .nil⟩ K3).mono ?_
 rintro e w2 ⟨rfl, sS, u2, ⟨uT, uS, hs, vT, rfl, hOT, hRS⟩, hK⟩
 have K4 := Kn.effApp (v := (_ :: _ :: ([] : List Blk)) ++ [_, _]) (rest := [_]) K2 hK
 simp only [List.cons_append, List.append_assoc, List.nil_append] at K4
 refine ⟨_, _, r2, _, rfl, K4, Rep.here _, hst, ?_⟩
 rw [hpend]
 simp only [List.nil_append] at hOT hRS
 refine ek_block (ek_next (wk_seq ?_))
 refine wk_region [0, 0] rfl Kx ?_
 simp only [qy]
 refine rf_load rfl rfl rfl Try.underlying33 rfl (fun w hw => (Kn.hd0 (Kn.tl hw)).at rfl) ?_
 simp only [qz]
 refine rg_assign ?_
 simp only [qz]
 refine rg_nil (ek_next (wk_ret ?_))
 refine ek_sub (sk _ (sk _ (List.Sublist.append_left (List.Sublist.append_left ((sc _ sn).trans (List.sublist_append_right _ _)) _) _))) ?_
 refine ek_perm ((((((List.Perm.refl _).append_left _).trans (List.perm_middle (l₁ := uS))).append_left _).trans (List.perm_middle (l₁ := uT))).trans ((List.Perm.refl _).cons _)) ?_
 refine ek_retMn [dd] (fun w hw => ⟨_, res_t 4 rfl, ?_⟩)
 (try simp only [qz])
 exact ⟨vT, uT ++ uS, rfl, ⟨uT, uS, hs, rfl, hOT, hRS⟩, by simpa using hw⟩
theorem collect_any (m p : Nat) (hm : m + 1 ≤ 6) (hp : p ≤ 5) (gm gp : Nat) (w : World) (F : List Nat) (K : Kn w F [(gm, .cells #[.int .i64 ((m + 1 : Nat) : Int)] 3), (gp, .cells #[.int .i64 p] 3)] w) : Calls Try.prog 68 #[.func (.func 118) #[] #[.pointer (some ⟨gm, 0, none⟩), .pointer (some ⟨gp, 0, none⟩)]] w fun e w' => ∃ v U, e = .returned v ∧ OwnL U v (pats (m + 1) p) ∧ Kn w F U w' := by
 go_enter Try.func68, Try.ntmps68
 refine wk_startF K ?_
 refine wk_seq ?_
 refine wk_region [0] rfl Kx ?_
 simp only [qy]
 refine rg_assign ?_
 simp only [qz]
 refine rg_nil (ek_next (wk_seq ?_))
 refine wk_region [0, 1, 0] rfl Kx ?_
 simp only [qy]
 refine rg_move ?_
 simp only [qz]
 apply rg_call Rx Kx
 case hargs => exact Ax
 refine fun w2 hw => (appendSeq_any m p hm hp gm gp w2 [gm, gp] (Kn.self (v := [_, _]) (rest := []) (by simpa using hw))).mono ?_
 rintro e w3 ⟨v, U, rfl, hO, hK⟩
 have K2 := Kn.effApp (v := [_, _]) (rest := []) (by simpa using hw) hK
 refine ⟨v, U, rfl, by simpa using K2, Nz, ?_⟩
 simp only [qz]
 refine rg_assign ?_
 simp only [qz]
 refine rg_nil (ek_next (wk_ret ?_))
 refine ek_ret (fun w hw => ⟨rfl, _, res_t _ rfl, ?_⟩)
 (try simp only [qz])
 exact ⟨v, U, rfl, hO, hw⟩
def patR (m p : Int) : List (List Int) := if 1 ≤ m ∧ m ≤ 6 ∧ 0 ≤ p ∧ p ≤ 5 then pats m.toNat p.toNat else []
def patE (m p : Int) : Int := if 1 ≤ m ∧ m ≤ 6 ∧ 0 ≤ p ∧ p ≤ 5 then 0 else 2
theorem mpatterns_any (mi pi : Int) (w : World) : Calls Try.prog 19 #[.int .i64 mi, .int .i64 pi] w fun e w' => RetL w (patR mi pi) (patE mi pi) e w' := by
 go_enter Try.func19, Try.ntmps19
 refine wk_start ?_
 refine wk_seq ?_
 refine wk_region [0, 0] rfl Kx ?_
 simp only [qy]
 refine rg_assign ?_
 simp only [qz]
 refine rg_assign ?_
 simp only [qz]
 refine rg_nil (ek_next (wk_seq (wk_seq ?_)))
 refine wk_region [0, 0, 0, 0, 0, 0, 0, 0, 0, 0, 0, 0, 0, 0] rfl Kx ?_
 simp only [qy]
 refine rg_move ?_
 simp only [qz]
 refine rfb_lss rfl rfl rfl rfl ?_
 intro x h1
 cases x
 ·(try simp only [qd, ne_eq] at h1)
  simp only [qz]
  refine rg_move ?_
  simp only [qz]
  apply rg_soft_g
  case hg => rfl
  case hy => (intro w hw; go_simp; (try go_bits); exact Yld.mk _ _)
  simp only [qz]
  refine rfb_gtr rfl rfl rfl rfl ?_
  intro x h2
  cases x
  ·(try simp only [qd, ne_eq] at h2)
   simp only [qz]
   refine rf_pick rfl rfl rfl ?_
   simp only [qz]
   refine rg_move ?_
   simp only [qz]
   apply rg_soft_g
   case hg => rfl
   case hy => (intro w hw; go_simp; (try go_bits); exact Yld.mk _ _)
   simp only [qz]
   refine rfb_lss rfl rfl rfl rfl ?_
   intro x h3
   cases x
   ·(try simp only [qd, ne_eq] at h3)
    simp only [qz]
    refine rf_pick rfl rfl rfl ?_
    simp only [qz]
    refine rg_move ?_
    simp only [qz]
    apply rg_soft_g
    case hg => rfl
    case hy => (intro w hw; go_simp; (try go_bits); exact Yld.mk _ _)
    simp only [qz]
    refine rfb_gtr rfl rfl rfl rfl ?_
    intro x h4
    cases x
    ·(try simp only [qd, ne_eq] at h4)
     simp only [qz]
     refine rf_pick rfl rfl rfl ?_
     simp only [qz]
     refine rg_nil (ek_next (wk_cond_f rfl (wk_skip (ek_next (wk_seq ?_)))))
     refine wk_region [0, 0, 1, 1, 0, 0] rfl Kx ?_
     simp only [qy]
     refine rg_move ?_
     simp only [qz]
     refine rg_move ?_
     simp only [qz]
     obtain ⟨m, rfl⟩ : ∃ m : Nat, mi = ((m + 1 : Nat) : Int) := ⟨(mi - 1).toNat, by omega⟩
     obtain ⟨p, rfl⟩ : ∃ p : Nat, pi = p := ⟨pi.toNat, by omega⟩
     apply rg_made (T := fun v u => ∃ gm gp, v = .func (.func 118) #[] #[.pointer (some ⟨gm, 0, none⟩), .pointer (some ⟨gp, 0, none⟩)] ∧ u = [(gm, .cells #[.int .i64 ((m + 1 : Nat) : Int)] 3), (gp, .cells #[.int .i64 p] 3)]) Rx Kx
     case hargs => exact Ax
     case h => exact fun w hw => (patterns_any ((m + 1 : Nat) : Int) p w).mono (fun e w' ⟨gm, gp, he, hm⟩ => ⟨_, _, he, ⟨gm, gp, rfl, rfl⟩, hm⟩)
     case hz => exact Nz
     rintro _ _ ⟨gm, gp, rfl, rfl⟩
     simp only [List.cons_append, List.nil_append]
     simp only [qz]
     apply rg_call Rx Kx
     case hargs => exact Ax
     refine fun w2 hw => (collect_any m p Ox Ox gm gp w2 [gm, gp] (Kn.self (v := [_, _]) (rest := []) (by simpa using hw))).mono ?_
     rintro e w3 ⟨v, U, rfl, hO, hK⟩
     have K2 := Kn.effApp (v := [_, _]) (rest := []) (by simpa using hw) hK
     refine ⟨v, U, rfl, by simpa using K2, Nz, ?_⟩
     simp only [qz]
     refine rg_assign ?_
     simp only [qz]
     refine rg_assign ?_
     simp only [qz]
     refine rg_nil (ek_next (wk_ret ?_))
     refine ek_ret (fun w hw => ⟨rfl, _, res_tt _ _ rfl, ?_⟩)
     (try simp only [qz])
     exact ⟨v, U, by unfold patE; rw [if_pos Ox], (by unfold patR; rw [if_pos Ox]; exact hO), hw.made (List.Sublist.refl _)⟩
    (try simp only [qd, ne_eq] at h4)
    simp only [qz]
    refine rf_pick rfl rfl rfl ?_
    simp only [qz]
    refine rg_nil (ek_next (wk_cond_t rfl (wk_seq ?_)))
    refine wk_region [0, 0] rfl Kx ?_
    simp only [qy]
    refine rg_assign ?_
    simp only [qz]
    refine rg_assign ?_
    simp only [qz]
    refine rg_nil (ek_next (wk_ret (ek_then_ret ?_)))
    refine ek_ret (fun w hw => ⟨rfl, _, res_tt _ _ rfl, ?_⟩)
    (try simp only [qz])
    exact ⟨_, [], by unfold patE; rw [if_neg Ox], (by unfold patR; rw [if_neg Ox]; exact OwnL.nil), .nil hw.below⟩
   (try simp only [qd, ne_eq] at h3)
   simp only [qz]
   refine rf_pick rfl rfl rfl ?_
   simp only [qz]
   refine rg_move ?_
   simp only [qz]
   refine rg_skip Rx ?_
   simp only [qz]
   refine rg_skip Rx ?_
   simp only [qz]
   refine rf_pick rfl rfl rfl ?_
   simp only [qz]
   refine rg_nil (ek_next (wk_cond_t rfl (wk_seq ?_)))
   refine wk_region [0, 0] rfl Kx ?_
   simp only [qy]
   refine rg_assign ?_
   simp only [qz]
   refine rg_assign ?_
   simp only [qz]
   refine rg_nil (ek_next (wk_ret (ek_then_ret ?_)))
   refine ek_ret (fun w hw => ⟨rfl, _, res_tt _ _ rfl, ?_⟩)
   (try simp only [qz])
   exact ⟨_, [], by unfold patE; rw [if_neg Ox], (by unfold patR; rw [if_neg Ox]; exact OwnL.nil), .nil hw.below⟩
  (try simp only [qd, ne_eq] at h2)
  simp only [qz]
  refine rf_pick rfl rfl rfl ?_
  simp only [qz]
  refine rg_move ?_
  simp only [qz]
  refine rg_skip Rx ?_
  simp only [qz]
  refine rg_skip Rx ?_
  simp only [qz]
  refine rf_pick rfl rfl rfl ?_
  simp only [qz]
  refine rg_move ?_
  simp only [qz]
  refine rg_skip Rx ?_
  simp only [qz]
  refine rg_skip Rx ?_
  simp only [qz]
  refine rf_pick rfl rfl rfl ?_
  simp only [qz]
  refine rg_nil (ek_next (wk_cond_t rfl (wk_seq ?_)))
  refine wk_region [0, 0] rfl Kx ?_
  simp only [qy]
  refine rg_assign ?_
  simp only [qz]
  refine rg_assign ?_
  simp only [qz]
  refine rg_nil (ek_next (wk_ret (ek_then_ret ?_)))
  refine ek_ret (fun w hw => ⟨rfl, _, res_tt _ _ rfl, ?_⟩)
  (try simp only [qz])
  exact ⟨_, [], by unfold patE; rw [if_neg Ox], (by unfold patR; rw [if_neg Ox]; exact OwnL.nil), .nil hw.below⟩
 (try simp only [qd, ne_eq] at h1)
 simp only [qz]
 refine rg_move ?_
 simp only [qz]
 refine rg_skip Rx ?_
 simp only [qz]
 refine rg_skip Rx ?_
 simp only [qz]
 refine rf_pick rfl rfl rfl ?_
 simp only [qz]
 refine rg_move ?_
 simp only [qz]
 refine rg_skip Rx ?_
 simp only [qz]
 refine rg_skip Rx ?_
 simp only [qz]
 refine rf_pick rfl rfl rfl ?_
 simp only [qz]
 refine rg_move ?_
 simp only [qz]
 refine rg_skip Rx ?_
 simp only [qz]
 refine rg_skip Rx ?_
 simp only [qz]
 refine rf_pick rfl rfl rfl ?_
 simp only [qz]
 refine rg_nil (ek_next (wk_cond_t rfl (wk_seq ?_)))
 refine wk_region [0, 0] rfl Kx ?_
 simp only [qy]
 refine rg_assign ?_
 simp only [qz]
 refine rg_assign ?_
 simp only [qz]
 refine rg_nil (ek_next (wk_ret (ek_then_ret ?_)))
 refine ek_ret (fun w hw => ⟨rfl, _, res_tt _ _ rfl, ?_⟩)
 (try simp only [qz])
 exact ⟨_, [], by unfold patE; rw [if_neg Ox], (by unfold patR; rw [if_neg Ox]; exact OwnL.nil), .nil hw.below⟩
structure W6 where
  w0 : Int
  w1 : Int
  w2 : Int
  w3 : Int
  w4 : Int
  w5 : Int
deriving DecidableEq, Inhabited
def W6.val (x : W6) : Int := x.w0 + 18446744073709551616 * (x.w1 + 18446744073709551616 * (x.w2 + 18446744073709551616 * (x.w3 + 18446744073709551616 * (x.w4 + 18446744073709551616 * x.w5))))
structure W6.Wf (x : W6) : Prop where
  a0 : 0 ≤ x.w0
  b0 : x.w0 < 18446744073709551616
  a1 : 0 ≤ x.w1
  b1 : x.w1 < 18446744073709551616
  a2 : 0 ≤ x.w2
  b2 : x.w2 < 18446744073709551616
  a3 : 0 ≤ x.w3
  b3 : x.w3 < 18446744073709551616
  a4 : 0 ≤ x.w4
  b4 : x.w4 < 18446744073709551616
  a5 : 0 ≤ x.w5
  b5 : x.w5 < 18446744073709551616
def W6.of (n : Int) : W6 := ⟨n % 18446744073709551616, n / 18446744073709551616 % 18446744073709551616, n / 18446744073709551616 / 18446744073709551616 % 18446744073709551616, n / 18446744073709551616 / 18446744073709551616 / 18446744073709551616 % 18446744073709551616, n / 18446744073709551616 / 18446744073709551616 / 18446744073709551616 / 18446744073709551616 % 18446744073709551616, n / 18446744073709551616 / 18446744073709551616 / 18446744073709551616 / 18446744073709551616 / 18446744073709551616 % 18446744073709551616⟩
theorem W6.of_wf (n : Int) : (W6.of n).Wf := ⟨by simp only [W6.of]; omega, by simp only [W6.of]; omega, by simp only [W6.of]; omega, by simp only [W6.of]; omega, by simp only [W6.of]; omega, by simp only [W6.of]; omega, by simp only [W6.of]; omega, by simp only [W6.of]; omega, by simp only [W6.of]; omega, by simp only [W6.of]; omega, by simp only [W6.of]; omega, by simp only [W6.of]; omega⟩
theorem W6.of_val (n : Int) : (W6.of n).val = n - 39402006196394479212279040100143613805079739270465446667948293404245721771497210611414266254884915640806627990306816 * (n / 18446744073709551616 / 18446744073709551616 / 18446744073709551616 / 18446744073709551616 / 18446744073709551616 / 18446744073709551616) := by simp only [W6.val, W6.of]; omega
theorem W6.ext' {x y : W6} (hx : x.Wf) (hy : y.Wf) (h : x.val = y.val) : x = y := by
 obtain ⟨a0, a1, a2, a3, a4, a5⟩ := x
 obtain ⟨b0, b1, b2, b3, b4, b5⟩ := y
 obtain ⟨h1, h2, h3, h4, h5, h6, h7, h8, h9, h10, h11, h12⟩ := hx
 obtain ⟨k1, k2, k3, k4, k5, k6, k7, k8, k9, k10, k11, k12⟩ := hy
 simp only [W6.val] at *
 congr 1 <;> omega
theorem W6.val_range {x : W6} (hx : x.Wf) : 0 ≤ x.val ∧ x.val < 39402006196394479212279040100143613805079739270465446667948293404245721771497210611414266254884915640806627990306816 := by
 obtain ⟨h1, h2, h3, h4, h5, h6, h7, h8, h9, h10, h11, h12⟩ := hx
 simp only [W6.val]
 omega
theorem W6.of_eq {x : W6} {n : Int} (hx : x.Wf) (q : Int) (h : x.val = n + 39402006196394479212279040100143613805079739270465446667948293404245721771497210611414266254884915640806627990306816 * q) : x = W6.of n := by
 refine W6.ext' hx (W6.of_wf n) ?_
 have h1 := W6.val_range hx
 have h2 := W6.val_range (W6.of_wf n)
 rw [W6.of_val] at h2 ⊢
 omega
def In384 (n : Int) : Prop := -19701003098197239606139520050071806902539869635232723333974146702122860885748605305707133127442457820403313995153408 ≤ n ∧ n < 19701003098197239606139520050071806902539869635232723333974146702122860885748605305707133127442457820403313995153408
theorem W6.of_inj {m n : Int} (hm : In384 m) (hn : In384 n) (h : W6.of m = W6.of n) : m = n := by
 have h1 := W6.of_val m
 have h2 := W6.of_val n
 rw [h] at h1
 unfold In384 at hm hn
 omega
theorem W6.of_whole {n : Int} (h0 : -9223372036854775808 ≤ n) (h1 : n < 9223372036854775808) : W6.of n = ⟨n % 18446744073709551616, (if n < 0 then 18446744073709551615 else 0), (if n < 0 then 18446744073709551615 else 0), (if n < 0 then 18446744073709551615 else 0), (if n < 0 then 18446744073709551615 else 0), (if n < 0 then 18446744073709551615 else 0)⟩ := by
 simp only [W6.of]
 split <;> congr 1 <;> omega
theorem W6.add_eq {m n : Int} {s0 s1 s2 s3 s4 s5 c0 c1 c2 c3 c4 c5 : Int} (hw : (⟨s0, s1, s2, s3, s4, s5⟩ : W6).Wf)
    (h0 : s0 + 18446744073709551616 * c0 = (W6.of m).w0 + (W6.of n).w0) (h1 : s1 + 18446744073709551616 * c1 = (W6.of m).w1 + (W6.of n).w1 + c0) (h2 : s2 + 18446744073709551616 * c2 = (W6.of m).w2 + (W6.of n).w2 + c1)
    (h3 : s3 + 18446744073709551616 * c3 = (W6.of m).w3 + (W6.of n).w3 + c2) (h4 : s4 + 18446744073709551616 * c4 = (W6.of m).w4 + (W6.of n).w4 + c3) (h5 : s5 + 18446744073709551616 * c5 = (W6.of m).w5 + (W6.of n).w5 + c4) :
    (⟨s0, s1, s2, s3, s4, s5⟩ : W6) = W6.of (m + n) := by
  have e1 := W6.of_val m
  have e2 := W6.of_val n
  refine W6.of_eq hw (-(m / 18446744073709551616 / 18446744073709551616 / 18446744073709551616 / 18446744073709551616 / 18446744073709551616 / 18446744073709551616) - (n / 18446744073709551616 / 18446744073709551616 / 18446744073709551616 / 18446744073709551616 / 18446744073709551616 / 18446744073709551616) - c5) ?_
  generalize (m / 18446744073709551616 / 18446744073709551616 / 18446744073709551616 / 18446744073709551616 / 18446744073709551616 / 18446744073709551616) = p at *
  generalize (n / 18446744073709551616 / 18446744073709551616 / 18446744073709551616 / 18446744073709551616 / 18446744073709551616 / 18446744073709551616) = q at *
  generalize W6.of m = x at *
  generalize W6.of n = y at *
  simp only [W6.val] at *
  omega
theorem W6.neg_eq {m : Int} {s0 s1 s2 s3 s4 s5 c0 c1 c2 c3 c4 c5 : Int} (hw : (⟨s0, s1, s2, s3, s4, s5⟩ : W6).Wf)
    (h0 : s0 = 18446744073709551616 * c0 - (W6.of m).w0) (h1 : s1 = 18446744073709551616 * c1 - (W6.of m).w1 - c0) (h2 : s2 = 18446744073709551616 * c2 - (W6.of m).w2 - c1)
    (h3 : s3 = 18446744073709551616 * c3 - (W6.of m).w3 - c2) (h4 : s4 = 18446744073709551616 * c4 - (W6.of m).w4 - c3) (h5 : s5 = 18446744073709551616 * c5 - (W6.of m).w5 - c4) :
    (⟨s0, s1, s2, s3, s4, s5⟩ : W6) = W6.of (-m) := by
  have e1 := W6.of_val m
  refine W6.of_eq hw ((m / 18446744073709551616 / 18446744073709551616 / 18446744073709551616 / 18446744073709551616 / 18446744073709551616 / 18446744073709551616) + c5) ?_
  generalize (m / 18446744073709551616 / 18446744073709551616 / 18446744073709551616 / 18446744073709551616 / 18446744073709551616 / 18446744073709551616) = p at *
  generalize W6.of m = x at *
  simp only [W6.val] at *
  omega
theorem W6.times_eq {m n : Int} {s0 s1 s2 s3 s4 s5 c0 c1 c2 c3 c4 c5 : Int} (hw : (⟨s0, s1, s2, s3, s4, s5⟩ : W6).Wf)
    (h0 : s0 + 18446744073709551616 * c0 = (W6.of m).w0 * n) (h1 : s1 + 18446744073709551616 * c1 = (W6.of m).w1 * n + c0) (h2 : s2 + 18446744073709551616 * c2 = (W6.of m).w2 * n + c1)
    (h3 : s3 + 18446744073709551616 * c3 = (W6.of m).w3 * n + c2) (h4 : s4 + 18446744073709551616 * c4 = (W6.of m).w4 * n + c3) (h5 : s5 + 18446744073709551616 * c5 = (W6.of m).w5 * n + c4) :
    (⟨s0, s1, s2, s3, s4, s5⟩ : W6) = W6.of (m * n) := by
  have e1 := W6.of_val m
  refine W6.of_eq hw (-(m / 18446744073709551616 / 18446744073709551616 / 18446744073709551616 / 18446744073709551616 / 18446744073709551616 / 18446744073709551616) * n - c5) ?_
  generalize (m / 18446744073709551616 / 18446744073709551616 / 18446744073709551616 / 18446744073709551616 / 18446744073709551616 / 18446744073709551616) = p at *
  generalize W6.of m = x at *
  simp only [W6.val] at *
  grind
theorem W6.half_eq {m : Int} (hm : In384 m) (he : m % 2 = 0) :
    (⟨(W6.of m).w0 / 2 + (W6.of m).w1 % 2 * 9223372036854775808, (W6.of m).w1 / 2 + (W6.of m).w2 % 2 * 9223372036854775808, (W6.of m).w2 / 2 + (W6.of m).w3 % 2 * 9223372036854775808,
      (W6.of m).w3 / 2 + (W6.of m).w4 % 2 * 9223372036854775808, (W6.of m).w4 / 2 + (W6.of m).w5 % 2 * 9223372036854775808, (W6.of m).w5 / 2 + (W6.of m).w5 / 9223372036854775808 * 9223372036854775808⟩ : W6) = W6.of (m / 2) := by
  have e1 := W6.of_val m
  have hw := W6.of_wf m
  have h0 : (W6.of m).w0 % 2 = 0 := by simp only [W6.of]; omega
  unfold In384 at hm
  have hp : (m / 18446744073709551616 / 18446744073709551616 / 18446744073709551616 / 18446744073709551616 / 18446744073709551616 / 18446744073709551616) = if m < 0 then -1 else 0 := by split <;> omega
  rw [hp] at e1
  clear hp
  generalize W6.of m = x at e1 h0 hw ⊢
  obtain ⟨x0, x1, x2, x3, x4, x5⟩ := x
  obtain ⟨h1, h2, h3, h4, h5, h6, h7, h8, h9, h10, h11, h12⟩ := hw
  simp only [W6.val] at *
  have t0 : x5 / 9223372036854775808 = if m < 0 then 1 else 0 := by split at e1 <;> split <;> omega
  rw [t0]
  refine W6.of_eq ⟨by dsimp only; omega, by dsimp only; omega, by dsimp only; omega, by dsimp only; omega, by dsimp only; omega, by dsimp only; omega, by dsimp only; omega, by dsimp only; omega, by dsimp only; omega, by dsimp only; omega, by dsimp only; split <;> omega, by dsimp only; split at e1 <;> split <;> omega⟩ (if m < 0 then 1 else 0) ?_
  simp only [W6.val]
  split at e1 <;> split <;> omega
theorem W6.odd_eq (m : Int) : (W6.of m).w0 % 2 = m % 2 := by simp only [W6.of]; omega
theorem run_Add64 (x y c s r : Int) (hx : 0 ≤ x) (hy : 0 ≤ y) (hc0 : 0 ≤ c) (hc : c ≤ 1) (hs : (x + y + c) % 18446744073709551616 = s) (hr : (x + y + c) / 18446744073709551616 = r) (w : World) :
    (callFunc 150 #[.int .u64 x, .int .u64 y, .int .u64 c]).run Try.prog w = .ok (.value (.tuple #[.int .u64 s, .int .u64 r])) w := by
  rw [run_callFunc_extern Try.func150 Kx Kx Kx (e := add64Entry) Kx, run_add64 x y c hx hy hc0 hc, hs, hr]
  rfl
theorem run_Sub64 (x y b s r : Nat) (hb : b ≤ 1) (hs : (x + 18446744073709551616 - y - b) % 18446744073709551616 = s) (hr : (if x < y + b then 1 else 0) = r) (w : World) :
    (callFunc 155 #[.int .u64 x, .int .u64 y, .int .u64 b]).run Try.prog w = .ok (.value (.tuple #[.int .u64 s, .int .u64 r])) w := by
  rw [run_callFunc_extern Try.func155 Kx Kx Kx (e := sub64Entry) Kx, run_sub64 x y b hb, hs, hr]
  rfl
theorem run_Sub64I (x y b s r : Int) (x0 : 0 ≤ x) (y0 : 0 ≤ y) (y1 : y < 18446744073709551616) (b0 : 0 ≤ b) (hb : b ≤ 1) (hs : (x + 18446744073709551616 - y - b) % 18446744073709551616 = s) (hr : (if x < y + b then 1 else 0) = r) (w : World) :
    (callFunc 155 #[.int .u64 x, .int .u64 y, .int .u64 b]).run Try.prog w = .ok (.value (.tuple #[.int .u64 s, .int .u64 r])) w := by
  obtain ⟨x, rfl⟩ := Int.eq_ofNat_of_zero_le x0
  obtain ⟨y, rfl⟩ := Int.eq_ofNat_of_zero_le y0
  obtain ⟨b, rfl⟩ := Int.eq_ofNat_of_zero_le b0
  have h := run_Sub64 x y b _ _ Ox rfl rfl w
  have e1 : (((x + 18446744073709551616 - y - b) % 18446744073709551616 : Nat) : Int) = s := by rw [← hs]; omega
  have e2 : (((if x < y + b then 1 else 0 : Nat)) : Int) = r := by rw [← hr]; split <;> split <;> omega
  rw [e1, e2] at h
  exact h
set_option maxHeartbeats 1000000
def sel4 {α : Type} (a b c d : α) : Nat → α
  | 0 => a
  | 1 => b
  | 2 => c
  | _ => d
def upd {α : Type} (T : Nat → α) (j : Nat) (t : α) : Nat → α := fun m => if m = j then t else T m
theorem upd_same {α : Type} (T : Nat → α) (j : Nat) (t : α) : upd T j t j = t := if_pos rfl
theorem upd_other {α : Type} (T : Nat → α) {j m : Nat} (t : α) (h : m ≠ j) : upd T j t m = T m := if_neg h
theorem lt4 {m : Nat} (h : m < 4) : m = 0 ∨ m = 1 ∨ m = 2 ∨ m = 3 := by omega
def acc (X Y : Nat → Int) : Nat → Nat → Int
  | 0, _ => 0
  | n + 1, m => if m = (n / 4 + n % 4) % 4 then acc X Y n m + (if 4 ≤ n / 4 + n % 4 then -(X (n / 4) * Y (n % 4)) else X (n / 4) * Y (n % 4)) else acc X Y n m
theorem acc_bound {X Y : Nat → Int} {M : Int} (h0 : 0 ≤ M) (h : ∀ i k, i < 4 → k < 4 → -M ≤ X i * Y k ∧ X i * Y k ≤ M) : ∀ n m, n ≤ 16 → -(n * M) ≤ acc X Y n m ∧ acc X Y n m ≤ n * M
  | 0, m, _ => by simp [acc]
  | n + 1, m, hn => by
    have ih := acc_bound h0 h n m (by omega)
    have hb := h (n / 4) (n % 4) (by omega) (by omega)
    have e : ((n + 1 : Nat) : Int) * M = n * M + M := by rw [Int.natCast_add, Int.add_mul]; simp
    rw [e]
    simp only [acc]
    split
    · split <;> omega
    · omega
theorem acc_step {X Y T : Nat → Int} {i k : Nat} (hk : k < 4) (h : acc X Y (i * 4 + k) = T) : acc X Y (i * 4 + (k + 1)) = upd T ((i + k) % 4) (T ((i + k) % 4) + (if 4 ≤ i + k then -(X i * Y k) else X i * Y k)) := by
 funext m
 have e1 : (i * 4 + k) / 4 = i := by omega
 have e2 : (i * 4 + k) % 4 = k := by omega
 rw [show i * 4 + (k + 1) = i * 4 + k + 1 by omega]
 simp only [acc]
 rw [e1, e2, h]
 unfold upd
 split
 ·next hm => rw [hm]
 ·rfl
theorem sel_cases {p : Nat → Prop} (h0 : p 0) (h1 : p 1) (h2 : p 2) (h3 : p 3) : ∀ m, m < 4 → p m := fun m hm => by
  rcases lt4 hm with rfl | rfl | rfl | rfl <;> assumption
def smB (n : Int) : Bool := decide (-1000000000 ≤ n) && decide (n ≤ 1000000000)
def numOk (y : Nm) : Bool := smB y.a && (smB y.b && (smB y.c && smB y.d))
def wnum (z : Nm) : Nm × Bool := if numOk z.nf = true then (z.nf, decide (z.nf.k ≤ 40)) else (Nm.zero, false)
theorem wnum_numV {z : Nm} : numV z.mk' = if (wnum z).2 = true then .tuple #[nmV (wnum z).1, .int .i64 0] else .tuple #[nmV Nm.zero, .int .i64 4] := by
 have hs : z.nf.small = (decide (z.nf.k ≤ 40) && numOk z.nf) := by
  rw [Bool.eq_iff_iff, small_iff]
  simp only [numOk, smB, Bool.and_eq_true, decide_eq_true_eq]
  constructor
  ·rintro ⟨h, h1, h2, h3, h4, h5, h6, h7, h8⟩
   exact ⟨h, ⟨h1, h2⟩, ⟨h3, h4⟩, ⟨h5, h6⟩, h7, h8⟩
  ·rintro ⟨h, ⟨h1, h2⟩, ⟨h3, h4⟩, ⟨h5, h6⟩, h7, h8⟩
   exact ⟨h, h1, h2, h3, h4, h5, h6, h7, h8⟩
 unfold Nm.mk' wnum
 rw [hs]
 cases numOk z.nf with
 | false => simp [numV]
 | true =>
  by_cases h : z.nf.k ≤ 40
  ·simp [h, numV]
  ·simp [h, numV]
section
variable {R : Option Nat} {P : Program} {ops : Array Oper} {Q : Exit → Act → World → Prop} {B : World} {F : List Nat} {s0 : Option (List Blk × List Blk)}
variable {l : List (Oper × Nat)} {a : Act} {s s' : List Blk} {d : Option Tmp} {op : Op} {t : TypeId} {p : String} {af : Array Edge} {v : Value} {gd : Option (Nat × Bool)} {m : Nat}
theorem run_isAgg {T : TypeId} {dd : TypeDesc} (hu : P.underlying T = some dd) (w : World) : (isAgg T).run P w = .ok (isRow dd) w := by
 unfold isAgg
 rw [Sem.run_bind, run_underlying hu w]
 cases dd <;> simp_all [isRow]
theorem rf_idxR {T : Nat} {x y : Operand} {n len e sz : Nat} {cs : Array Value} {k : IntKind} {dd : TypeDesc} (hm : soft03 m = true) (hg : Region.wanted ⟨d, .index T x y, t, p, af, gd⟩ (yielded ops a.tmps) = true)
    (hx : a.eval x = .agg cs) (hy : a.eval y = .int k (n : Int)) (hu : P.underlying T = some (.array len e)) (he : P.underlying e = some dd) (hr : isRow dd = true) (hs : (P.info? e).map (·.size) = some sz) (hn : n < len)
    {vs : Array Value} (hv : cs.extract (n * sz) (n * sz + sz) = vs) (h : Rg R P ops Q B F s0 l (a.put d (.agg vs)) s) : Rg R P ops Q B F s0 ((⟨d, .index T x y, t, p, af, gd⟩, m) :: l) a s := by
  subst hv
  refine rg_any hm hg (fun w => ?_) h
  unfold Yld
  cases hq : P.info? e with
  | none => simp [hq] at hs
  | some q =>
    have hs' : q.size = sz := by simpa [hq] using hs
    have ha := run_isAgg he w
    rw [hr] at ha
    simp [execOp, hx, hy, Instr.index, run_underlying hu, asIntOf, part, ha, sizeOf, typeInfo, hq, hs', hn]
theorem rf_idx1 {T : Nat} {x y : Operand} {n len e : Nat} {cs : Array Value} {k : IntKind} {dd : TypeDesc} (hm : soft03 m = true) (hg : Region.wanted ⟨d, .index T x y, t, p, af, gd⟩ (yielded ops a.tmps) = true)
    (hx : a.eval x = .agg cs) (hy : a.eval y = .int k (n : Int)) (hu : P.underlying T = some (.array len e)) (he : P.underlying e = some dd) (hr : isRow dd = false) (hs : (P.info? e).map (·.size) = some 1) (hn : n < len)
    (hv : cs[n]? = some v) (h : Rg R P ops Q B F s0 l (a.put d v) s) : Rg R P ops Q B F s0 ((⟨d, .index T x y, t, p, af, gd⟩, m) :: l) a s := by
  refine rg_any hm hg (fun w => ?_) h
  unfold Yld
  cases hq : P.info? e with
  | none => simp [hq] at hs
  | some q =>
    have hs' : q.size = 1 := by simpa [hq] using hs
    have ha := run_isAgg he w
    rw [hr] at ha
    simp [execOp, hx, hy, Instr.index, run_underlying hu, asIntOf, part, ha, sizeOf, typeInfo, hq, hs', hn, hv]
end
section
variable {α β : Type}
end
theorem tr_down {B : Int} {z : Nm} (h : z.tr.Fit B) : z.Fit B := by
 obtain ⟨a0, a1, b0, b1, c0, c1, d0, d1⟩ := h
 simp only [Nm.tr] at *
 exact ⟨by omega, by omega, by omega, by omega, by omega, by omega, by omega, by omega⟩
theorem up_down {B : Int} : ∀ (n : Nat) {z : Nm}, (Nm.up n z).Fit B → z.Fit B
  | 0, _, h => h
  | n + 1, z, h => tr_down (up_down n (z := z.tr) h)
theorem mul_bd {x y A B : Int} (hx : -A ≤ x) (hx' : x ≤ A) (hy : -B ≤ y) (hy' : y ≤ B) : -(A * B) ≤ x * y ∧ x * y ≤ A * B := by
 have h1 : x.natAbs ≤ A.toNat := by omega
 have h2 : y.natAbs ≤ B.toNat := by omega
 have h3 := Nat.mul_le_mul h1 h2
 rw [← Int.natAbs_mul] at h3
 have h4 : ((A.toNat * B.toNat : Nat) : Int) = A * B := by
  rw [Int.natCast_mul, Int.toNat_of_nonneg (by omega), Int.toNat_of_nonneg (by omega)]
 omega
theorem mulR_fitG {A B : Int} {x y : Nm} (hx : x.Fit A) (hy : y.Fit B) : (x.mulR y).Fit (4 * (A * B)) := by
 obtain ⟨a0, a1, b0, b1, c0, c1, d0, d1⟩ := hx
 obtain ⟨a0', a1', b0', b1', c0', c1', d0', d1'⟩ := hy
 have p1 := mul_bd a0 a1 a0' a1'; have p2 := mul_bd a0 a1 b0' b1'; have p3 := mul_bd a0 a1 c0' c1'; have p4 := mul_bd a0 a1 d0' d1'
 have q1 := mul_bd b0 b1 a0' a1'; have q2 := mul_bd b0 b1 b0' b1'; have q3 := mul_bd b0 b1 c0' c1'; have q4 := mul_bd b0 b1 d0' d1'
 have r1 := mul_bd c0 c1 a0' a1'; have r2 := mul_bd c0 c1 b0' b1'; have r3 := mul_bd c0 c1 c0' c1'; have r4 := mul_bd c0 c1 d0' d1'
 have s1 := mul_bd d0 d1 a0' a1'; have s2 := mul_bd d0 d1 b0' b1'; have s3 := mul_bd d0 d1 c0' c1'; have s4 := mul_bd d0 d1 d0' d1'
 generalize A * B = M at *
 unfold Nm.mulR
 exact ⟨by dsimp only; omega, by dsimp only; omega, by dsimp only; omega, by dsimp only; omega, by dsimp only; omega, by dsimp only; omega, by dsimp only; omega, by dsimp only; omega⟩
theorem mulR_tl (x y : Nm) : x.tr.mulR y = (x.mulR y).tr := by
 unfold Nm.mulR Nm.tr
 congr 1 <;> grind
theorem mulR_tr (x y : Nm) : x.mulR y.tr = (x.mulR y).tr := by
 unfold Nm.mulR Nm.tr
 congr 1 <;> grind
theorem mulR_ul : ∀ (n : Nat) (x y : Nm), (Nm.up n x).mulR y = Nm.up n (x.mulR y)
  | 0, _, _ => rfl
  | n + 1, x, y => by
    show (Nm.up n x.tr).mulR y = Nm.up n (x.mulR y).tr
    rw [mulR_ul n, mulR_tl]
theorem mulR_ur : ∀ (n : Nat) (x y : Nm), x.mulR (Nm.up n y) = Nm.up n (x.mulR y)
  | 0, _, _ => rfl
  | n + 1, x, y => by
    show x.mulR (Nm.up n y.tr) = Nm.up n (x.mulR y).tr
    rw [mulR_ur n, mulR_tr]
theorem mulR_to {x y : Nm} {m n : Int} (hx : x.k ≤ m) (hy : y.k ≤ n) : (x.to m).mulR (y.to n) = (x.mulR y).to (m + n) := by
 have e : (x.mulR y).k = x.k + y.k := rfl
 unfold Nm.to
 rw [mulR_ul, mulR_ur, Nm.up_add, e]
 congr 1
 omega
structure Bd (n : Nat) (M : Int) (z : Nm) : Prop where
  k0 : 0 ≤ z.k
  k1 : z.k ≤ 40 * n
  fit : (z.to (40 * n)).Fit M
theorem Bd.self {n : Nat} {M : Int} {z : Nm} (h : Bd n M z) : z.Fit M := up_down _ h.fit
theorem Bd.mul {n : Nat} {M : Int} {x z : Nm} (hx : x.Ok) (h : Bd n M z) : Bd (n + 1) (4503599627370496 * M) (x.mulR z) := by
 have hf : (x.to 40).Fit 1048576000000000 := by unfold Nm.to; exact Nm.up40_fit hx.fit (by have := hx.k0; omega)
 have h0 := hx.k0; have h1 := hx.k1; have h2 := h.k0; have h3 := h.k1
 have ek : (x.mulR z).k = x.k + z.k := rfl
 have e := mulR_to hx.k1 h.k1
 have e2 : (40 : Int) + 40 * n = 40 * ((n + 1 : Nat) : Int) := by simp only [Int.natCast_add]; omega
 rw [e2] at e
 have hM : 0 ≤ M := by have := h.fit.a0; have := h.fit.a1; omega
 refine ⟨by omega, by omega, ?_⟩
 rw [← e]
 exact Nm.fit_mono (mulR_fitG hf h.fit) (by omega)
theorem Bd.mono {n : Nat} {M M' : Int} {z : Nm} (h : Bd n M z) (hM : M ≤ M') : Bd n M' z := ⟨h.k0, h.k1, Nm.fit_mono h.fit hM⟩
def Sq (n : Nat) (l : List (List Nm)) : Prop := ∀ s ∈ l, s.length = n ∧ ∀ z ∈ s, z.Ok
theorem Sq.tail {n : Nat} {l : List (List Nm)} (h : Sq n l) : Sq n l.tail := fun s hs => h s (List.mem_of_mem_tail hs)
set_option maxHeartbeats 1000000
def sumS : Nat → (Nat → Nat → Int) → Nat → Int
  | 0, _ => fun _ => 0
  | m + 1, f => fun j => sumS m f j + f m j
def wyS (A : Nat → Nat → Nat → Int) (n : Nat) : Nat → Nat → Nat → Int
  | 0, _ => sel4 1 0 0 0
  | c + 1, S => sumS n fun k => if S.testBit k then acc (wyS A n c (S - 2 ^ k)) (A c k) 16 else fun _ => 0
def nmF (T : Nat → Int) (k : Int) : Nm := ⟨T 0, T 1, T 2, T 3, k⟩
def co4 (z : Nm) : Nat → Int := sel4 z.a z.b z.c z.d
section
variable {a : Nat → Nat → Nm} {K : Int} {n : Nat}
end
def Be : Nat → Int
  | 0 => 1
  | c + 1 => 144115188075855872 * Be c
theorem Be_pos : ∀ n, 1 ≤ Be n
  | 0 => by show (1 : Int) ≤ 1; omega
  | n + 1 => by have := Be_pos n; show 1 ≤ 144115188075855872 * Be n; omega
theorem sumS_bd (f : Nat → Nat → Int) {M : Int} (j : Nat) : ∀ m, (∀ k, k < m → -M ≤ f k j ∧ f k j ≤ M) → -(m * M) ≤ sumS m f j ∧ sumS m f j ≤ m * M
  | 0, _ => by show -(((0 : Nat) : Int) * M) ≤ 0 ∧ 0 ≤ ((0 : Nat) : Int) * M; omega
  | m + 1, h => by
    have ih := sumS_bd f j m fun k hk => h k (by omega)
    have h1 := h m (by omega)
    have e : ((m + 1 : Nat) : Int) * M = m * M + M := by rw [Int.natCast_add, Int.add_mul]; simp
    show -(((m + 1 : Nat) : Int) * M) ≤ sumS m f j + f m j ∧ sumS m f j + f m j ≤ ((m + 1 : Nat) : Int) * M
    omega
theorem wyS_bd {A : Nat → Nat → Nat → Int} {n : Nat} (hn : n ≤ 6) (hA : ∀ i k j, i < n → k < n → j < 4 → -1048576000000000 ≤ A i k j ∧ A i k j ≤ 1048576000000000) : ∀ c S j, c ≤ n → j < 4 → -(Be c) ≤ wyS A n c S j ∧ wyS A n c S j ≤ Be c
  | 0, S, j, _, hj => by
    show -(1 : Int) ≤ sel4 1 0 0 0 j ∧ sel4 1 0 0 0 j ≤ (1 : Int)
    rcases (by omega : j = 0 ∨ j = 1 ∨ j = 2 ∨ j = 3) with rfl | rfl | rfl | rfl <;> decide
  | c + 1, S, j, hc, hj => by
    have hB := Be_pos c
    have key : ∀ k, k < n → -(16 * (Be c * 1048576000000000)) ≤ (if S.testBit k then acc (wyS A n c (S - 2 ^ k)) (A c k) 16 else fun _ => 0) j ∧ (if S.testBit k then acc (wyS A n c (S - 2 ^ k)) (A c k) 16 else fun _ => 0) j ≤ 16 * (Be c * 1048576000000000) := by
      intro k hk
      split
      · have := acc_bound (X := wyS A n c (S - 2 ^ k)) (Y := A c k) (M := Be c * 1048576000000000) (by omega) (fun i l hi hl => by
          have h1 := wyS_bd hn hA c (S - 2 ^ k) i (by omega) hi
          have h2 := hA c k l (by omega) hk hl
          exact mul_bd h1.1 h1.2 h2.1 h2.2) 16 j (by omega)
        exact this
      · dsimp only; omega
    have := sumS_bd (M := 16 * (Be c * 1048576000000000)) _ j n key
    show -(144115188075855872 * Be c) ≤ sumS n _ j ∧ sumS n _ j ≤ 144115188075855872 * Be c
    have e := Int.mul_le_mul_of_nonneg_right (show (n : Int) ≤ 6 by omega) (show 0 ≤ 16 * (Be c * 1048576000000000) by omega)
    omega
section
variable {P : Program} {ops : Array Oper} {Q : Exit → Act → World → Prop} {B : World} {F : List Nat} {z : List Blk}
theorem rt_inv (J : Nat → Array Bool → Act → List Blk → Prop)
    (step : ∀ n listed a s, J (n + 1) listed a s → Region.ready .any ops listed ≠ [] ∧ ∀ i ∈ Region.ready .any ops listed, ∃ o, ops[i]? = some o ∧
      Rg none P ops (Exit.then (fun a' w' => ∃ s', Kn B F s' w' ∧ z.Sublist s' ∧ J n (listed.setIfInBounds i true) a' s') Q) B F (some (z, z)) [(o, 1)] a s)
    (fin : ∀ listed a s, J 0 listed a s → Region.ready .any ops listed = [] ∧ Ek B F Q .normal a s) : ∀ n listed a s, J n listed a s → RT P ops Q B F z n listed a s
  | 0, listed, a, s, h => fun w K => ⟨(fin listed a s h).1, (fin listed a s h).2 w K⟩
  | n + 1, listed, a, s, h => fun w K => by
    obtain ⟨hne, hst⟩ := step n listed a s h
    refine wpAnyH_all rfl hne fun i hi => ?_
    obtain ⟨o, ho, hr⟩ := hst i hi
    refine wpOp_of_list ho ?_
    rcases hr with hr | ⟨hn, _⟩
    · refine hop_list (hop_mono ?_ (hop_panic (Q1 := Exit.then (fun a' w' => ∃ s', Kn B F s' w' ∧ z.Sublist s' ∧ J n (listed.setIfInBounds i true) a' s') Q) (Q := Q) (fun c a w h => h) (fun ⟨a₀, w₀, h₀⟩ => ⟨a₀, w₀, h₀⟩) (hr w K)))
      rintro a' w' ⟨s', K', _, h'⟩
      obtain ⟨s2, K2, hz2, hJ⟩ := h' w' K'
      exact ⟨K2.sub hz2, rt_inv J step fin n _ a' s2 hJ w' K2⟩
    · cases hn
end
def b4 (b : Nat → Bool) : List Bool := [b 0, b 1, b 2, b 3]
def st4 (b0 b1 b2 b3 : Bool) (k : Nat) : Array Bool := #[true, true, true, true, true, true, true, true, b0, b1, b2, b3, decide (0 < k), decide (1 < k), decide (2 < k), decide (3 < k)]
def ok4 (ops : Array Oper) (b0 b1 b2 b3 : Bool) (k : Nat) : Bool :=
  let r := Region.ready .any ops (st4 b0 b1 b2 b3 k)
  (r.isEmpty == (b0 && b1 && b2 && b3 && k == 4)) && r.all fun i => (decide (8 ≤ i) && decide (i < 12) && !([b0, b1, b2, b3].getD (i - 8) true)) || (decide (i = 12 + k) && decide (k < 4) && [b0, b1, b2, b3].getD k false)
def bools : List Bool := [false, true]
def chk4 (ops : Array Oper) : Bool := bools.all fun b0 => bools.all fun b1 => bools.all fun b2 => bools.all fun b3 => [0, 1, 2, 3, 4].all fun k => !(([b0, b1, b2, b3].take k).all id) || ok4 ops b0 b1 b2 b3 k
theorem chk4_at {ops : Array Oper} (h : chk4 ops = true) (b0 b1 b2 b3 : Bool) {k : Nat} (hk : k ≤ 4) (hb : (([b0, b1, b2, b3].take k).all id) = true) : ok4 ops b0 b1 b2 b3 k = true := by
  unfold chk4 at h
  have mb : ∀ b : Bool, b ∈ bools := fun b => by cases b <;> simp [bools]
  have h1 := List.all_eq_true.1 h b0 (mb b0)
  have h2 := List.all_eq_true.1 h1 b1 (mb b1)
  have h3 := List.all_eq_true.1 h2 b2 (mb b2)
  have h4 := List.all_eq_true.1 h3 b3 (mb b3)
  have h5 := List.all_eq_true.1 h4 k (by have : k = 0 ∨ k = 1 ∨ k = 2 ∨ k = 3 ∨ k = 4 := by omega
                                         rcases this with rfl | rfl | rfl | rfl | rfl <;> simp)
  rw [hb] at h5
  simpa using h5
def put4 (a : Act) (v : Nat → Value) : Act := ⟨(((a.tmps.setIfInBounds 6 (v 0)).setIfInBounds 7 (v 1)).setIfInBounds 8 (v 2)).setIfInBounds 9 (v 3), a.defers⟩
theorem put4_put (a : Act) (v : Nat → Value) (x : Value) {j : Nat} (hj : j < 4) : (put4 a v).put (some (6 + j)) x = put4 a (upd v j x) := by
 unfold put4 Act.put
 dsimp only
 congr 1
 refine Array.ext_getElem? fun i => ?_
 rcases lt4 hj with rfl | rfl | rfl | rfl <;> simp only [Array.getElem?_setIfInBounds, Array.size_setIfInBounds, upd] <;>
  by_cases h6 : 6 = i <;> by_cases h7 : 7 = i <;> by_cases h8 : 8 = i <;> by_cases h9 : 9 = i <;> simp [h6, h7, h8, h9] <;> omega
theorem put4_t (a : Act) (v : Nat → Value) (h : 10 ≤ a.tmps.size) {j : Nat} (hj : j < 4) : (put4 a v).eval (.tmp (6 + j)) = v j := by
 unfold put4 Act.eval
 dsimp only
 have h6 : 6 < a.tmps.size := by omega
 have h7 : 7 < a.tmps.size := by omega
 have h8 : 8 < a.tmps.size := by omega
 have h9 : 9 < a.tmps.size := by omega
 rcases lt4 hj with rfl | rfl | rfl | rfl <;> simp [Array.getD_eq_getD_getElem?, Array.getElem?_setIfInBounds, h6, h7, h8, h9]
theorem put4_r (a : Act) (v : Nat → Value) {j : Nat} (hj : 10 ≤ j) : (put4 a v).eval (.tmp j) = a.eval (.tmp j) := by
 unfold put4 Act.eval
 dsimp only
 have h6 : 6 ≠ j := by omega
 have h7 : 7 ≠ j := by omega
 have h8 : 8 ≠ j := by omega
 have h9 : 9 ≠ j := by omega
 simp [Array.getD_eq_getD_getElem?, Array.getElem?_setIfInBounds, h6, h7, h8, h9]
def X4 (T : Nat) (z0 : Array Value) (c : Nat → List Value) (g : Nat → Nat) (b : Nat → Bool) (k j : Nat) : List Blk := if b j then [(g j, .cells (if j < k then (c j).toArray else z0) T)] else []
def cnt4 (b : Nat → Bool) : Nat := (if b 0 then 0 else 1) + (if b 1 then 0 else 1) + (if b 2 then 0 else 1) + (if b 3 then 0 else 1)
def L4 (X : Nat → List Blk) (s : List Blk) : List Blk := X 0 ++ (X 1 ++ (X 2 ++ (X 3 ++ s)))
theorem L4_add {X Y : Nat → List Blk} {x : Blk} {s : List Blk} {j : Nat} (hj : j < 4) (h0 : X j = []) (h1 : Y j = [x]) (h : ∀ i, i < 4 → i ≠ j → Y i = X i) : (x :: L4 X s).Perm (L4 Y s) := by
 unfold L4
 rcases lt4 hj with rfl | rfl | rfl | rfl
 ·rw [h0, h1, h 1 (by decide) (by decide), h 2 (by decide) (by decide), h 3 (by decide) (by decide)]; exact List.Perm.refl _
 ·rw [h0, h1, h 0 (by decide) (by decide), h 2 (by decide) (by decide), h 3 (by decide) (by decide)]; exact List.perm_middle.symm
 ·rw [h0, h1, h 0 (by decide) (by decide), h 1 (by decide) (by decide), h 3 (by decide) (by decide)]
  exact List.perm_middle.symm.trans (List.Perm.append_left _ List.perm_middle.symm)
 ·rw [h0, h1, h 0 (by decide) (by decide), h 1 (by decide) (by decide), h 2 (by decide) (by decide)]
  exact List.perm_middle.symm.trans (List.Perm.append_left _ (List.perm_middle.symm.trans (List.Perm.append_left _ List.perm_middle.symm)))
theorem L4_upd {X Y : Nat → List Blk} {g T i : Nat} {vs : List Value} {cs : Array Value} {s : List Blk} {j : Nat} (hj : j < 4) (hi : i + vs.length ≤ cs.size) (h0 : X j = [(g, .cells cs T)]) (h1 : Y j = [(g, .cells (setMany cs i vs) T)]) (h : ∀ i, i < 4 → i ≠ j → Y i = X i) : UpdR g i vs (L4 X s) (L4 Y s) := by
 unfold L4
 rcases lt4 hj with rfl | rfl | rfl | rfl
 ·rw [h0, h1, h 1 (by decide) (by decide), h 2 (by decide) (by decide), h 3 (by decide) (by decide)]; exact UpdR.here _ _ _ hi
 ·rw [h0, h1, h 0 (by decide) (by decide), h 2 (by decide) (by decide), h 3 (by decide) (by decide)]; exact UpdR.app _ (UpdR.here _ _ _ hi)
 ·rw [h0, h1, h 0 (by decide) (by decide), h 1 (by decide) (by decide), h 3 (by decide) (by decide)]; exact UpdR.app _ (UpdR.app _ (UpdR.here _ _ _ hi))
 ·rw [h0, h1, h 0 (by decide) (by decide), h 1 (by decide) (by decide), h 2 (by decide) (by decide)]; exact UpdR.app _ (UpdR.app _ (UpdR.app _ (UpdR.here _ _ _ hi)))
theorem L4_sub (X : Nat → List Blk) (s : List Blk) : s.Sublist (L4 X s) :=
  (List.sublist_append_right _ _).trans ((List.sublist_append_right _ _).trans ((List.sublist_append_right _ _).trans (List.sublist_append_right _ _)))
section
variable {ops : Array Oper} {Q : Exit → Act → World → Prop} {B : World} {F : List Nat}
theorem rg_perm {R : Option Nat} {P : Program} {o : Oper} {a : Act} {s s' : List Blk} {zz : List Blk × List Blk} (hp : s.Perm s') (h : Rg R P ops Q B F (some zz) [(o, 1)] a s') : Rg R P ops Q B F (some zz) [(o, 1)] a s := by
 rcases h with h | ⟨hn, _⟩
 ·exact .inl fun w K => h w (K.perm hp)
 ·cases hn
theorem rt_4 {P : Program} {T : Nat} {z0 : Array Value} {c : Nat → List Value} {a1 : Act} {s : List Blk} (hchk : chk4 ops = true) (hsz : 10 ≤ a1.tmps.size)
    (hop : ∀ j, j < 4 → (∃ ty p af, ops[8 + j]? = some ⟨some (6 + j), .alloc T, ty, p, af, none⟩) ∧ ∃ ty p af, ops[12 + j]? = some ⟨none, .store T (.tmp (6 + j)) (.tmp (36 + 2 * j)), ty, p, af, none⟩)
    (halloc : ∀ (ev : Operand → Value) d ty p af (w : World), (execOp ev ⟨d, .alloc T, ty, p, af, none⟩).run P w = .ok (.value (.pointer (some ⟨w.heap.size, 0, none⟩))) (w.alloc (.cells z0 T)))
    (hc : ∀ j, j < 4 → a1.eval (.tmp (36 + 2 * j)) = .agg (c j).toArray) (hlen : ∀ j, j < 4 → (c j).length = z0.size) (hT : (P.info? T).map (·.size) = some z0.size) (h1 : ∀ j, j < 4 → (c j).all (·.oneCell') = true)
    (hset : ∀ j, j < 4 → setMany z0 0 (c j) = (c j).toArray) (hv : put4 a1 (fun j => a1.eval (.tmp (6 + j))) = a1)
    (k : ∀ g0 g1 g2 g3, Ek B F Q .normal (put4 a1 (sel4 (.pointer (some ⟨g0, 0, none⟩)) (.pointer (some ⟨g1, 0, none⟩)) (.pointer (some ⟨g2, 0, none⟩)) (.pointer (some ⟨g3, 0, none⟩)))) ((g0, .cells (c 0).toArray T) :: (g1, .cells (c 1).toArray T) :: (g2, .cells (c 2).toArray T) :: (g3, .cells (c 3).toArray T) :: s)) :
    RT P ops Q B F s 8 (st4 false false false false 0) a1 s := by
  refine rt_inv (fun n listed a s' => ∃ (b : Nat → Bool) (k : Nat) (g : Nat → Nat) (v : Nat → Value), k ≤ 4 ∧ (∀ j, j < k → b j = true) ∧ listed = st4 (b 0) (b 1) (b 2) (b 3) k ∧ n = cnt4 b + (4 - k) ∧ a = put4 a1 v ∧ (∀ j, j < 4 → b j = true → v j = .pointer (some ⟨g j, 0, none⟩)) ∧ s'.Perm (L4 (X4 T z0 c g b k) s)) ?_ ?_ 8 _ a1 s
    ⟨fun _ => false, 0, fun _ => 0, fun j => a1.eval (.tmp (6 + j)), by omega, fun j hj => by omega, rfl, rfl, hv.symm, (fun j _ h => nomatch h), List.Perm.refl _⟩
  · rintro n listed a s' ⟨b, k0, g, v, hk, hb, rfl, hn, rfl, hg, hp⟩
    have hall : (([b 0, b 1, b 2, b 3].take k0).all id) = true := by
      have : k0 = 0 ∨ k0 = 1 ∨ k0 = 2 ∨ k0 = 3 ∨ k0 = 4 := by omega
      rcases this with rfl | rfl | rfl | rfl | rfl <;> simp_all
    have hok := chk4_at hchk (b 0) (b 1) (b 2) (b 3) hk hall
    unfold ok4 at hok
    simp only [Bool.and_eq_true] at hok
    obtain ⟨hempty, hready⟩ := hok
    refine ⟨fun he => ?_, fun i hi => ?_⟩
    · rw [he] at hempty
      have : (b 0 && b 1 && b 2 && b 3 && k0 == 4) = true := by simpa using hempty
      simp only [Bool.and_eq_true, beq_iff_eq] at this
      unfold cnt4 at hn
      rw [if_pos this.1.1.1.1, if_pos this.1.1.1.2, if_pos this.1.1.2, if_pos this.1.2] at hn
      omega
    · have hi' := List.all_eq_true.1 hready i hi
      simp only [Bool.or_eq_true, Bool.and_eq_true, decide_eq_true_eq, Bool.not_eq_true'] at hi'
      rcases hi' with ⟨⟨h8, h12⟩, hbj⟩ | ⟨⟨rfl, hk4⟩, hbk⟩
      · obtain ⟨j, rfl⟩ : ∃ j, i = 8 + j := ⟨i - 8, by omega⟩
        have hj : j < 4 := by omega
        have hbj' : b j = false := by
          rw [show 8 + j - 8 = j by omega] at hbj
          rcases lt4 hj with rfl | rfl | rfl | rfl <;> simpa using hbj
        obtain ⟨⟨ty, p, af, ho⟩, _⟩ := hop j hj
        refine ⟨_, ho, rg_perm hp (rg_new (cs := z0) (ty := T) Rx (fun w => halloc _ _ _ _ _ w) (fun _ h => by cases h; exact (L4_sub _ _).trans (List.Sublist.refl _)) fun g' => ?_)⟩
        intro w K
        have hkj : k0 ≤ j := Nat.le_of_not_lt fun h => by have := hb j h; rw [hbj'] at this; cases this
        have hX0 : X4 T z0 c g b k0 j = [] := by unfold X4; rw [if_neg (by rw [hbj']; decide)]
        have hX1 : X4 T z0 c (upd g j g') (upd b j true) k0 j = [(g', .cells z0 T)] := by
          unfold X4
          rw [upd_same, upd_same, if_pos rfl, if_neg Ox]
        have hXo : ∀ i, i < 4 → i ≠ j → X4 T z0 c (upd g j g') (upd b j true) k0 i = X4 T z0 c g b k0 i := fun i _ hne => by
          unfold X4
          rw [upd_other b true hne, upd_other g g' hne]
        refine ⟨_, K.perm (L4_add hj hX0 hX1 hXo), L4_sub _ _, upd b j true, k0, upd g j g', upd v j (.pointer (some ⟨g', 0, none⟩)), hk, fun i hi => ?_, ?_, ?_, put4_put a1 v _ hj, fun i hi hbi => ?_, List.Perm.refl _⟩
        · by_cases e : i = j
          · omega
          · rw [upd_other b true e]; exact hb i hi
        · rcases lt4 hj with rfl | rfl | rfl | rfl <;> rfl
        · unfold cnt4 at hn ⊢
          rcases lt4 hj with rfl | rfl | rfl | rfl <;> simp [upd, hbj'] at hn ⊢ <;> omega
        · by_cases e : i = j
          · subst e; rw [upd_same, upd_same]
          · rw [upd_other v _ e, upd_other g _ e]; rw [upd_other b true e] at hbi; exact hg i hi hbi
      · have hbk' : b k0 = true := by rcases lt4 hk4 with rfl | rfl | rfl | rfl <;> simpa using hbk
        obtain ⟨_, ty, p, af, ho⟩ := hop k0 hk4
        have hX0 : X4 T z0 c g b k0 k0 = [(g k0, .cells z0 T)] := by unfold X4; rw [if_pos hbk', if_neg Ox]
        have hX1 : X4 T z0 c g b (k0 + 1) k0 = [(g k0, .cells (setMany z0 0 (c k0)) T)] := by unfold X4; rw [if_pos hbk', if_pos Ox, hset k0 hk4]
        have hXo : ∀ i, i < 4 → i ≠ k0 → X4 T z0 c g b (k0 + 1) i = X4 T z0 c g b k0 i := fun i _ hne => by
          have e : (i < k0 + 1) ↔ i < k0 := by omega
          unfold X4
          simp only [e]
        refine ⟨_, ho, rg_perm hp (rf_storeR (n := z0.size) (vs := c k0) ((put4_t a1 v hsz hk4).trans (hg k0 hk4 hbk')) ((put4_r a1 v Ox).trans (hc k0 hk4)) hT (hlen k0 hk4) (h1 k0 hk4) (L4_upd hk4 (by rw [hlen k0 hk4]; omega) hX0 hX1 hXo) (fun _ h => by cases h; exact L4_sub _ _) ?_)⟩
        intro w K
        refine ⟨_, K, L4_sub _ _, b, k0 + 1, g, v, by omega, fun i hi => ?_, ?_, ?_, rfl, hg, List.Perm.refl _⟩
        · rcases (by omega : i < k0 ∨ i = k0) with h | rfl
          · exact hb i h
          · exact hbk'
        · rcases lt4 hk4 with rfl | rfl | rfl | rfl <;> rfl
        · omega
  · rintro listed a s' ⟨b, k0, g, v, hk, hb, rfl, hn, rfl, hg, hp⟩
    have hk4 : k0 = 4 := by omega
    subst hk4
    have hc0 : cnt4 b = 0 := by omega
    have hok := chk4_at hchk (b 0) (b 1) (b 2) (b 3) hk (by simp [hb 0, hb 1, hb 2, hb 3])
    unfold ok4 at hok
    simp only [Bool.and_eq_true] at hok
    have e0 := hb 0 (by decide); have e1 := hb 1 (by decide); have e2 := hb 2 (by decide); have e3 := hb 3 (by decide)
    refine ⟨?_, ek_perm hp ?_⟩
    · have := hok.1
      rw [e0, e1, e2, e3] at this ⊢
      simpa using this
    · have hX : L4 (X4 T z0 c g b 4) s = (g 0, .cells (c 0).toArray T) :: (g 1, .cells (c 1).toArray T) :: (g 2, .cells (c 2).toArray T) :: (g 3, .cells (c 3).toArray T) :: s := by
        unfold L4 X4
        rw [e0, e1, e2, e3]
        rfl
      rw [hX]
      have hp4 : put4 a1 v = put4 a1 (sel4 (.pointer (some ⟨g 0, 0, none⟩)) (.pointer (some ⟨g 1, 0, none⟩)) (.pointer (some ⟨g 2, 0, none⟩)) (.pointer (some ⟨g 3, 0, none⟩))) := by
        unfold put4
        rw [hg 0 (by decide) e0, hg 1 (by decide) e1, hg 2 (by decide) e2, hg 3 (by decide) e3]
        rfl
      rw [hp4]
      exact k (g 0) (g 1) (g 2) (g 3)
end
open Go.ChangeShapes Go.WideShapes Go.ChangeAt Go.RowKit
theorem nms_of_each {Q : Nat → Nm → Prop} : ∀ n : Nat, (∀ i, i < n → ∃ x, Q i x) → ∃ xs : List Nm, xs.length = n ∧ ∀ i, i < n → Q i (nm xs i)
  | 0, _ => ⟨[], rfl, fun i hi => by omega⟩
  | n + 1, h => by
    obtain ⟨xs, hl, hx⟩ := nms_of_each n fun i hi => h i Ox
    obtain ⟨x, hq⟩ := h n Ox
    refine ⟨xs ++ [x], by simp [hl], fun i hi => ?_⟩
    by_cases e : i = n
    · subst e
      have : nm (xs ++ [x]) i = x := by unfold nm El.at; rw [List.getD_eq_getElem?_getD, ← hl]; simp
      rw [this]; exact hq
    · have : nm (xs ++ [x]) i = nm xs i := by unfold nm El.at; rw [List.getD_eq_getElem?_getD, List.getD_eq_getElem?_getD, List.getElem?_append_left Ox]
      rw [this]; exact hx i Ox
theorem cellsNm : Try.prog.cellsOf 29 = 5 := by kernel_rfl
theorem cellsIntM : Try.prog.cellsOf 3 = 1 := by kernel_rfl
theorem cellsArr : Try.prog.cellsOf 27 = 4 := by kernel_rfl
theorem cellsSl : Try.prog.cellsOf 22 = 1 := by kernel_rfl
theorem cellsMx : Try.prog.cellsOf 24 = 2 := by kernel_rfl
theorem open_asM {H : Type} {enc : TypeId × Value → H} {W : World} {base : Nat} {v : Value} {d : DataW H} {p : List MemPlace}
    (hval : Value.okWide Try.prog W .any base 24 v) (h : DataW.Trod enc Try.prog W 0 (fun _ => true) true 24 v d p) (hlt : ∀ x ∈ p, x.block < W.heap.size) :
    ∃ (n : Int) (xs : List Nm) (a : Option Addr) (c : Nat), v = .agg #[.int .i64 n, .slice a xs.length c] ∧ AS W a (nms xs) ∧ xs.length ≤ maxLen := by
  obtain ⟨cs, rfl, hsz⟩ := okWide_struct Try.underlying24 hval
  rw [cellsMx] at hsz
  obtain ⟨fuel, hf⟩ := h
  obtain ⟨ys, m, _, hx, hl, hlen, hfi⟩ := DataW.trod_struct Try.underlying24 hf
  match cs, hsz with
  | ⟨[v0, v1]⟩, _ =>
  match ys, hlen with
  | [y0, y1], _ =>
  have t0 := hfi 0 _ rfl
  have t1 := hfi 1 _ rfl
  simp [Value.cells, cellsIntM, cellsSl] at t0 t1
  simp only [Prod.mk.injEq] at hx
  obtain ⟨rfl, rfl⟩ := hx
  obtain ⟨n0, e0, -, w0⟩ := DataW.trod_int Try.underlying3 t0
  simp only [List.cons.injEq, and_true] at e0
  subst e0
  rcases Go.Deep.open_slice Try.underlying22 t1 with ⟨hcs, hx⟩ | ⟨a, len, cap', m, n, D, Pl, hcs, _, hl, hm, hmm, hx, hel⟩
  · simp only [List.cons.injEq, and_true] at hcs
    subst hcs
    exact ⟨n0, [], none, 0, rfl, AS.nil, by simp⟩
  · simp only [List.cons.injEq, and_true] at hcs
    subst hcs
    simp only [if_true] at hmm
    subst hmm
    have each : ∀ i, i < len → ∃ x : Nm, (∀ r, r < 5 → W.cell? ((a.add (i * 5)).add r) = (nmC x)[r]?) := by
      intro i hi
      obtain ⟨cs', h1, h2⟩ := hel i Ox
      rw [cellsNm] at h1
      obtain ⟨_, hlen, hcell⟩ := World.cells?_some h1
      obtain ⟨zs, k, _, _, _, hzl, hz⟩ := DataW.trod_struct Try.underlying29 h2
      match cs', hlen, zs, hzl with
      | [v0, v1, v2, v3, v4], _, [zA, z4], _ =>
        have tA := hz 0 _ rfl
        have t4 := hz 1 _ rfl
        simp [cellsArr, cellsIntM] at tA t4
        obtain ⟨qs, k2, _, _, _, hql, hq⟩ := DataW.trod_array Try.underlying27 tA
        match qs, hql with
        | [z0, z1, z2, z3], _ =>
        have t0 := hq 0 Ox
        have t1 := hq 1 Ox
        have t2 := hq 2 Ox
        have t3 := hq 3 Ox
        simp [cellsIntM] at t0 t1 t2 t3
        obtain ⟨n0, e0, -, w0⟩ := DataW.trod_int Try.underlying3 t0
        obtain ⟨n1, e1, -, w1⟩ := DataW.trod_int Try.underlying3 t1
        obtain ⟨n2, e2, -, w2⟩ := DataW.trod_int Try.underlying3 t2
        obtain ⟨n3, e3, -, w3⟩ := DataW.trod_int Try.underlying3 t3
        obtain ⟨n4, e4, -, w4⟩ := DataW.trod_int Try.underlying3 t4
        simp only [List.cons.injEq, and_true] at e0 e1 e2 e3 e4
        subst e0 e1 e2 e3 e4
        exact ⟨⟨n0, n1, n2, n3, n4⟩, fun r hr => hcell r hr⟩
    obtain ⟨xs, hxl, hxx⟩ := nms_of_each len each
    subst hxl
    refine ⟨n0, xs, some a, _, rfl, fun hne => ?_, by omega⟩
    have h0 : 0 < xs.length := by
      rcases Nat.eq_zero_or_pos xs.length with h0 | h0
      · have := List.eq_nil_of_length_eq_zero h0; subst this; exact absurd rfl hne
      · exact h0
    obtain ⟨b, off, spot⟩ := a
    have hspot : spot = none := by
      have h1 := (hxx 0 h0) 0 Ox
      have h2 : W.cell? (((⟨b, off, spot⟩ : Addr).add (0 * 5)).add 0) = some (.int .i64 (nm xs 0).a) := h1
      simpa [Addr.add] using World.cell?_spot h2
    subst hspot
    refine ⟨b, off, rfl, hlt (.cell b off) ?_, fun j hj => ?_⟩
    · refine List.mem_flatMap.2 ⟨y1, by simp, ?_⟩
      have hy : y1.2 = _ := congrArg Prod.snd hx
      rw [hy]
      exact List.mem_append_left _ (MemPlace.mem_row.2 ⟨0, by rw [cellsNm]; omega, by simp⟩)
    · have hj2 : j < xs.length * 5 := by rw [NmE.flat_len] at hj; exact hj
      have h1 := (hxx (j / 5) Ox) (j % 5) (Nat.mod_lt _ Ox)
      have h2 := NmE.get xs (j / 5) (j % 5) Ox (Nat.mod_lt _ (by show 0 < 5; omega))
      have e : j / 5 * 5 + j % 5 = j := by omega
      have h3 : (nms xs)[j / 5 * 5 + j % 5]? = (nmC (nm xs (j / 5)))[j % 5]? := h2
      rw [e] at h3
      rw [h3, ← h1]
      have e2 : ((⟨b, off, none⟩ : Addr).add (j / 5 * 5)).add (j % 5) = ⟨b, off + j, none⟩ := by
        have ap : ∀ o i : Nat, (⟨b, o, none⟩ : Addr).add i = ⟨b, o + i, none⟩ := fun o i => by simp [Addr.add]
        rw [ap, ap, show off + j / 5 * 5 + j % 5 = off + j by omega]
      rw [e2]
namespace Mul64
theorem maskN (a : Nat) (ha : a < 18446744073709551616) : bits .and .u64 (a : Int) 4294967295 = ((a % 4294967296 : Nat) : Int) := by
 have h := bits_and_u64_nat a 4294967295 ha (by omega)
 have e : a &&& 4294967295 = a % 4294967296 := Nat.and_two_pow_sub_one_eq_mod a 32
 rw [e] at h
 exact h
theorem divN (a : Nat) : (a : Int) / 4294967296 = ((a / 4294967296 : Nat) : Int) := by omega
theorem mulN (a b : Nat) : (a : Int) * (b : Int) = ((a * b : Nat) : Int) := (Int.natCast_mul a b).symm
theorem addN (a b : Nat) : (a : Int) + (b : Int) = ((a + b : Nat) : Int) := (Int.natCast_add a b).symm
theorem wrapN (a : Nat) (ha : a < 18446744073709551616) : IntKind.u64.wrap (a : Int) = (a : Int) := by rw [IntKind.wrap_u64]; omega
theorem wrapM (a : Nat) : IntKind.u64.wrap (a : Int) = ((a % 18446744073709551616 : Nat) : Int) := by rw [IntKind.wrap_u64]; omega
end Mul64
theorem mul64_nat (x y : Nat) (hx : x < 18446744073709551616) (hy : y < 18446744073709551616) (w : World) :
    Calls Try.prog 151 #[.int .u64 x, .int .u64 y] w fun e w' => e = .returned (.tuple #[.int .u64 ((x * y / 18446744073709551616 : Nat) : Int), .int .u64 ((x * y % 18446744073709551616 : Nat) : Int)]) ∧ w = w' := by
  obtain ⟨bd, bt, bw, hhi⟩ := Lib.mul64_hi x y hx hy
  have ba := Lib.half_mul_le (a := x / 4294967296) (b := y / 4294967296) (by omega) (by omega)
  have bb := Lib.half_mul_le (a := x / 4294967296) (b := y % 4294967296) (by omega) (by omega)
  have bc := Lib.half_mul_le (a := x % 4294967296) (b := y / 4294967296) (by omega) (by omega)
  have ba' : x / 4294967296 * (y / 4294967296) < 18446744073709551616 := by omega
  have bb' : x / 4294967296 * (y % 4294967296) < 18446744073709551616 := by omega
  have bc' : x % 4294967296 * (y / 4294967296) < 18446744073709551616 := by omega
  have bh1 : x / 4294967296 * (y / 4294967296) + (x / 4294967296 * (y % 4294967296) + x % 4294967296 * (y % 4294967296) / 4294967296) / 4294967296 < 18446744073709551616 := by omega
  have bh : x / 4294967296 * (y / 4294967296) + (x / 4294967296 * (y % 4294967296) + x % 4294967296 * (y % 4294967296) / 4294967296) / 4294967296 + ((x / 4294967296 * (y % 4294967296) + x % 4294967296 * (y % 4294967296) / 4294967296) % 4294967296 + x % 4294967296 * (y / 4294967296)) / 4294967296 < 18446744073709551616 := by omega
  go_enter Try.func151, Try.ntmps151
  go_wp2
  simp only [Mul64.maskN x hx, Mul64.maskN y hy, Mul64.divN, Mul64.mulN, Mul64.addN, Mul64.wrapN _ bd, Mul64.wrapN _ bb', Mul64.wrapN _ bt, Mul64.maskN _ bt, Mul64.wrapN _ bc', Mul64.wrapN _ bw, Mul64.wrapN _ ba', Mul64.wrapN _ bh1, Mul64.wrapN _ bh, Mul64.wrapM (x * y)]
  rw [hhi]
  go_ret2
  exact ⟨rfl, rfl⟩
theorem mul64_any (x y : Int) (hx0 : 0 ≤ x) (hx : x ≤ 18446744073709551615) (hy0 : 0 ≤ y) (hy : y ≤ 18446744073709551615) (w : World) :
    Calls Try.prog 151 #[.int .u64 x, .int .u64 y] w fun e w' => e = .returned (.tuple #[.int .u64 (x * y / 18446744073709551616), .int .u64 (x * y % 18446744073709551616)]) ∧ w = w' := by
  obtain ⟨a, rfl⟩ := Int.eq_ofNat_of_zero_le hx0
  obtain ⟨b, rfl⟩ := Int.eq_ofNat_of_zero_le hy0
  refine (mul64_nat a b (by omega) (by omega) w).mono fun e w' ⟨he, hw⟩ => ⟨?_, hw⟩
  rw [he]
  simp
end Go.Proofs.Ytjeijnjaleldkaa
