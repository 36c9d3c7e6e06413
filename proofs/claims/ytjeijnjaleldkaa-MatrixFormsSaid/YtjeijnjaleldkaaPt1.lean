/- Package matrix: iterators over patterns. -/
import Derived.Test.YtjeijnjaleldkaaPt0
import Derived.Test.YtjeijnjaleldkaaMt1
namespace Go.Proofs.Ytjeijnjaleldkaa
set_option linter.all false
open Go.RowKit

theorem fold_zip1 {γ : Type} (f : γ → Nat × Value → γ) (t : γ) (p : Nat) (v : Value) : Array.foldl f t (#[p].zip #[v]) = f t (p, v) := by
  have e : (#[p].zip #[v]) = #[(p, v)] := by rw [List.zip_toArray]; rfl
  rw [e]; simp
theorem ex_loop {B w : World} {F : List Nat} {s : List Blk} {l : Nat} {r : Loop} (K : Kn B F ((l, .loop r) :: s) w) : ∃ r', r' = r := ⟨_, rfl⟩
/-- What an iterator over patterns does. -/
def PatC (m : Nat) : Prop := ∀ (p lp gm gp L : Nat) (r : Loop) (C : List (List Int) → List Blk → Prop) (ys : List (List Int)) (s0 : List Blk) (w : World) (F : List Nat), p ≤ 5 → ys.length + (pats m p).length ≤ L → RoundsP L m lp r C → C ys s0 →
  Kn w F (s0 ++ [(gm, .cells #[.int .i64 m] 3), (gp, .cells #[.int .i64 p] 3)]) w →
  Calls Try.prog 118 #[.func (.yield lp) #[] #[], .pointer (some ⟨gm, 0, none⟩), .pointer (some ⟨gp, 0, none⟩)] w fun e w' => e = .returned (.tuple #[]) ∧ ∃ s u, C (ys ++ pats m p) s ∧ Kn w F (s ++ u) w'
set_option maxRecDepth 100000 in
set_option maxHeartbeats 1000000 in
theorem patterns_any (m p : Int) (w : World) : Calls Try.prog 69 #[.int .i64 m, .int .i64 p] w fun e w' => ∃ gm gp, e = .returned (.func (.func 118) #[] #[.pointer (some ⟨gm, 0, none⟩), .pointer (some ⟨gp, 0, none⟩)]) ∧ Made w [(gm, .cells #[.int .i64 m] 3), (gp, .cells #[.int .i64 p] 3)] w' := by
  go_enter Try.func69, Try.ntmps69
  refine wk_start ?_
  refine wk_seq ?_
  refine wk_region [1, 1, 0] rfl (by kernel_rfl) ?_
  simp only [qy]
  refine rg_new (cs := ?_) (ty := ?_) (by rfl) (fun w => ?_) (fun _ h => by cases h) (fun g1 => ?_); rotate_left 2
  focus (go_simp; rfl)
  simp only [qz]
  refine rg_new (cs := ?_) (ty := ?_) (by rfl) (fun w => ?_) (fun _ h => by cases h) (fun g2 => ?_); rotate_left 2
  focus (go_simp; rfl)
  simp only [qz]
  refine rg_assign ?_
  simp only [qz]
  refine rg_nil (ek_next (wk_seq ?_))
  refine wk_region [0, 0] rfl (by kernel_rfl) ?_
  simp only [qy]
  apply rg_soft
  case hy => (intro w hw; go_simp; (try go_bits); exact Yld.mk _ _)
  simp only [qz]
  refine rg_assign ?_
  simp only [qz]
  refine rg_nil (ek_next (wk_ret ?_))
  refine ek_ret (fun w hw => ⟨rfl, _, res_t _ rfl, ?_⟩)
  (try simp only [qz])
  exact ⟨g1, g2, rfl, (hw.perm (List.Perm.swap _ _ _)).made (List.Sublist.refl _)⟩

set_option maxRecDepth 100000 in
theorem pat_one : PatC 1 := by
  intro p lp gm gp L r C ys s0 w F hp hlim hR hC K
  have hlim' : ys.length < L := by (simp [pats] at hlim; omega)
  revert hC K
  generalize s0 = uC
  intro hC K
  refine calls_marksF K Try.func118 rfl ?_
  simp only [Try.ntmps118, List.size_toArray, List.length_cons, List.length_nil, Nat.reduceAdd, Nat.reduceSub, Array.replicate_succ, Array.replicate_zero, List.push_toArray, List.append_toArray, List.nil_append, List.cons_append]
  refine wk_seq ?_
  refine wk_region [1] rfl (by kernel_rfl) ?_
  simp only [qy]
  refine rg_new (cs := ?_) (ty := ?_) (by rfl) (fun w => ?_) (fun _ h => by cases h) (fun g1 => ?_); rotate_left 2
  focus (go_simp; rfl)
  simp only [qz]
  refine rg_nil (ek_next (wk_seq (wk_seq ?_)))
  refine wk_region [0, 0] rfl (by kernel_rfl) ?_
  simp only [qy]
  refine rf_load rfl rfl rfl Try.underlying3 rfl (fun w hw => (Kn.hd0 (Kn.tlU (Kn.tl hw))).at rfl) ?_
  simp only [qz]
  refine rfb_eql rfl rfl rfl rfl ?_
  intro x h1
  obtain rfl : x = true := by (refine h1.symm.trans ?_; exact decide_eq_true (by omega))
  clear h1
  simp only [qz]
  refine rg_nil (ek_next (wk_cond_t rfl (wk_seq ?_)))
  refine wk_region [0, 0, 1, 1] rfl (by kernel_rfl) ?_
  simp only [qy]
  refine rf_load rfl rfl rfl Try.underlying57 rfl (fun w hw => (Kn.hd0 hw).at rfl) ?_
  simp only [qz]
  refine rf_load rfl rfl rfl Try.underlying3 rfl (fun w hw => (Kn.hd0 (Kn.tl (Kn.tlU (Kn.tl hw)))).at rfl) ?_
  simp only [qz]
  refine rg_newS (cs := ?_) (ty := ?_) (n := 1) (c := 1) (by rfl) (fun w => ?_) (fun _ h => by cases h) (fun g2 => ?_); rotate_left 2
  focus (go_simp; rfl)
  simp only [qz]
  refine rg_yieldP (u := [_]) (row := [(p : Int)]) hR hC (by simp) (by simp) (by omega) (OwnZ.one _) (by exact ((perm_atU (l := [_]) (u := uC) (List.Perm.refl _)).cons _)) (by rfl) rfl (by simp only [qm, qs, Act.eval] <;> rfl) (fun sD hCD => ?_)
  simp only [qz]
  refine rg_nil (ek_next (wk_ret (ek_then_ret ?_)))
  refine ek_retM0 (fun w hw => ⟨_, res_0 rfl, ?_⟩)
  exact ⟨rfl, sD, _, hCD, hw⟩
theorem as6 {α : Type} {x y z a b : α} {u r : List α} : x :: y :: z :: (u ++ (a :: b :: r)) = ((x :: y :: z :: u) ++ [a, b]) ++ r := by simp
theorem wrap_eq' {n r : Int} (h : n = r) (h0 : -9223372036854775808 ≤ r) (h1 : r < 9223372036854775808) : IntKind.i64.wrap n = r := by
  rw [h]; exact wrap_ok (by omega) (by omega)
set_option maxRecDepth 100000 in
set_option maxHeartbeats 1000000 in
theorem pat_step {m : Nat} (hm : m + 2 ≤ 6) (IH : PatC (m + 1)) : PatC (m + 2) := by
  intro p lp gm gp L r C ys s0 w F hp hlim hR hC K
  revert hC K
  generalize s0 = uC
  intro hC K
  refine calls_marksF K Try.func118 rfl ?_
  simp only [Try.ntmps118, List.size_toArray, List.length_cons, List.length_nil, Nat.reduceAdd, Nat.reduceSub, Array.replicate_succ, Array.replicate_zero, List.push_toArray, List.append_toArray, List.nil_append, List.cons_append]
  refine wk_seq ?_
  refine wk_region [1] rfl (by kernel_rfl) ?_
  simp only [qy]
  refine rg_new (cs := ?_) (ty := ?_) (by rfl) (fun w => ?_) (fun _ h => by cases h) (fun g1 => ?_); rotate_left 2
  focus (go_simp; rfl)
  simp only [qz]
  refine rg_nil (ek_next (wk_seq (wk_seq ?_)))
  refine wk_region [0, 0] rfl (by kernel_rfl) ?_
  simp only [qy]
  refine rf_load rfl rfl rfl Try.underlying3 rfl (fun w hw => (Kn.hd0 (Kn.tlU (Kn.tl hw))).at rfl) ?_
  simp only [qz]
  refine rfb_eql rfl rfl rfl rfl ?_
  intro x h1
  obtain rfl : x = false := by (refine h1.symm.trans ?_; exact decide_eq_false (by omega))
  clear h1
  simp only [qz]
  refine rg_nil (ek_next (wk_cond_f rfl (wk_skip (ek_next (wk_seq ?_)))))
  refine wk_region [0, 1, 1] rfl (by kernel_rfl) ?_
  simp only [qy]
  refine rf_load rfl rfl rfl Try.underlying3 rfl (fun w hw => (Kn.hd0 (Kn.tl (Kn.tlU (Kn.tl hw)))).at rfl) ?_
  simp only [qz]
  refine rg_new (cs := ?_) (ty := ?_) (by rfl) (fun w => ?_) (fun _ h => by cases h) (fun g2 => ?_); rotate_left 2
  focus (go_simp; rfl)
  simp only [qz]
  refine rf_store rfl rfl (by kernel_rfl) rfl rfl (UpdR.here _ _ _ (Nat.le_of_ble_eq_true rfl)) (fun _ h => by cases h) ?_
  simp only [qz]
  refine rg_nil (ek_next (wk_block ?_))
  refine wk_loopD [4, 5, 13, 14, 15, 16, 17, 18, 19, 20, 21, 22, 23, 24, 25, 26, 27, 28, 29, 30, 31] (fun mz f ds s => ∃ (t : Nat) (dl : List Nat) (uC : List Blk) (gF : Nat), f 4 = .pointer (some ⟨gF, 0, none⟩) ∧ ds = collD dl ∧ s = (gF, .cells #[.int .i64 ((p : Int) - ((t : Nat) : Int))] 3) :: (g1, .cells #[.func (.yield lp) #[] #[]] 57) :: (uC ++ ((gm, .cells #[.int .i64 (((m + 2 : Nat) : Int))] 3) :: (gp, .cells #[.int .i64 (p)] 3) :: (marksD dl ++ []))) ∧ mz = p + 1 - t ∧ t ≤ p + 1 ∧ C (ys ++ patsT (m + 1) p t) uC) (p + 1 - 0) ?_ (by kernel_rfl) ?_
  · exact ⟨0, [], uC, g2, rfl, rfl, (by rw [show ((p : Int) - ((0 : Nat) : Int)) = p by omega]; rfl), rfl, by omega, (by have h := hC; rwa [show ys = ys ++ patsT (m + 1) p 0 by simp [patsT]] at h)⟩
  clear hC
  rintro mz f1 ds s ⟨t, dl, uC, gF, hs4, rfl, rfl, hn, ht, hC⟩
  simp only [Act.putF, List.foldl_cons, List.foldl_nil, hs4, Act.put, Act.eval, q1, q2, q3, q4, q5, q6, q7, q8, q9, q10, q11, q12, q13, q14, q15, q16, q17, q18, Nat.reduceAdd, Bool.not_true, Bool.not_false]
  clear hs4
  refine wk_seq (wk_seq ?_)
  refine wk_region [0, 0] rfl (by kernel_rfl) ?_
  simp only [qy]
  refine rf_load rfl rfl rfl Try.underlying3 rfl (fun w hw => (Kn.hd0 hw).at rfl) ?_
  simp only [qz]
  refine rfb_geq rfl rfl rfl rfl ?_
  intro x h2
  cases x
  · (try simp only [qd, ne_eq] at h2)
    simp only [qz]
    refine rg_nil (ek_next (wk_cond_f rfl (wk_exit (ek_then_exit (ek_then_exit (ek_block_exit ?_))))))
    refine ek_perm ((((((((((((List.Perm.refl _).cons _).trans (List.perm_middle (l₁ := (marksD dl))).symm).cons _).trans (List.perm_middle (l₁ := (marksD dl))).symm).append_left _).trans (List.perm_append_comm_assoc uC (marksD dl) _)).cons _).trans (List.perm_middle (l₁ := (marksD dl))).symm).cons _).trans (List.perm_middle (l₁ := (marksD dl))).symm).trans ((perm_atU (l := [_, _]) (u := uC) (List.Perm.refl _)).append_left _)) ?_
    obtain rfl : t = p + 1 := by omega
    refine ek_normMn dl (fun w hw => ⟨_, res_0 rfl, ?_⟩)
    exact ⟨rfl, uC, _, by rw [pats_T]; exact hC, hw⟩
  (try simp only [qd, ne_eq] at h2)
  simp only [qz]
  refine rg_nil (ek_next (wk_cond_t rfl (wk_skip (ek_next (wk_seq (wk_block (wk_seq ?_)))))))
  refine wk_region [0, 0, 0, 0, 0, 1] rfl (by kernel_rfl) ?_
  simp only [qy]
  refine rf_load rfl rfl rfl Try.underlying3 rfl (fun w hw => (Kn.hd0 (Kn.tlU (Kn.tl (Kn.tl hw)))).at rfl) ?_
  simp only [qz]
  refine rf_sub (r := ((m + 1 : Nat) : Int)) rfl rfl rfl rfl (wrap_eq' (by omega) (by omega) (by omega)) ?_
  simp only [qz]
  refine rf_load rfl rfl rfl Try.underlying3 rfl (fun w hw => (Kn.hd0 (Kn.tl (Kn.tlU (Kn.tl (Kn.tl hw))))).at rfl) ?_
  simp only [qz]
  refine rf_load rfl rfl rfl Try.underlying3 rfl (fun w hw => (Kn.hd0 hw).at rfl) ?_
  simp only [qz]
  refine rf_sub (r := (t : Int)) rfl rfl rfl rfl (wrap_eq' (by omega) (by omega) (by omega)) ?_
  simp only [qz]
  apply rg_made (T := fun v u => ∃ gm2 gp2, v = .func (.func 118) #[] #[.pointer (some ⟨gm2, 0, none⟩), .pointer (some ⟨gp2, 0, none⟩)] ∧ u = [(gm2, .cells #[.int .i64 (((m + 1 : Nat) : Int))] 3), (gp2, .cells #[.int .i64 (t)] 3)]) (by rfl) (by kernel_rfl)
  case hargs => (simp only [qm, qs, Act.eval]; exact rfl)
  case h => exact fun w hw => (patterns_any ((m + 1 : Nat) : Int) t w).mono (fun e w' ⟨gm2, gp2, he, hm⟩ => ⟨_, _, he, ⟨gm2, gp2, rfl, rfl⟩, hm⟩)
  case hz => exact (fun _ h => by cases h)
  rintro _ _ ⟨gm2, gp2, rfl, rfl⟩
  simp only [List.cons_append, List.nil_append]
  simp only [qz]
  refine rg_nil (ek_next (wk_block ?_))
  refine wk_rangeFunc (f := 118) (caps := #[.pointer (some ⟨gm2, 0, none⟩), .pointer (some ⟨gp2, 0, none⟩)]) rfl (by kernel_rfl) ?_
  intro fn dd lq w1 K1
  obtain ⟨r2, hr2⟩ := ex_loop K1
  rw [← hr2] at K1
  have K2 := K1.perm ((perm_at (l := [_, _, _, _]) (perm_at (l := [_, _, _]) (perm_atU (l := [_, _, _]) (u := uC) (perm_at (l := [_]) (perm_at (l := [_]) (List.Perm.refl _)))))).cons _)
  rw [as6] at K2
  have K3 := Kn.self (v := (_ :: _ :: _ :: uC) ++ [_, _]) (rest := _) K2
  have hlt := patsT_le (m := m) (p := p) (t := t) (by omega)
  have hR2 : RoundsP (pats (m + 1) t).length (m + 1) lq r2 (fun zs S => ∃ sC, S = (lq, .loop r2) :: (g1, .cells #[.func (.yield lp) #[] #[]] 57) :: (gF, .cells #[.int .i64 ((p : Int) - ((t : Nat) : Int))] 3) :: sC ∧ C ((ys ++ patsT (m + 1) p t) ++ zs.map (((p - t : Nat) : Int) :: ·)) sC) := by
    subst hr2
    refine ⟨rfl, fun zs S ⟨sC, e, _⟩ => by subst e; simp, ?_⟩
    intro R B F zs row uN v S uR w hl0 hl1 hzl ⟨uD, hS, hCz⟩ hO K
    subst hS
    simp only [List.cons_append] at K
    obtain ⟨av, cv, rfl, hcv⟩ := Own.val hO
    obtain ⟨ad, rfl, hAd⟩ := hO.addr hl0
    refine roundIn_kn (Rep.app _ (Rep.here _)) rfl ?_ K
    simp only [fold_zip1]
    simp only [qz]
    refine wk_region [0] rfl (by kernel_rfl) ?_
    simp only [qy]
    refine rg_assign ?_
    simp only [qz]
    refine rg_nil ?_
    refine ek_asg ?_
    refine wk_block (wk_seq ?_)
    refine wk_rr (by kernel_rfl) ?_
    refine rr_hard3 (i := 0) (j := 1) (k := 3) (f := 0) (g := 0) (e := 0) (by kernel_rfl) rfl rfl rfl rfl rfl rfl ?_ ?_ ?_
    · refine rf_load rfl rfl rfl Try.underlying57 rfl (fun w hw => (Kn.hd0 (Kn.tl (Kn.tlU hw))).at rfl) ?_
      simp only [qz]
      refine rg_nil ?_
      refine ek_rr ?_
      refine rr_hard2 (i := 1) (j := 3) (f := 0) (g := 0) (by kernel_rfl) rfl rfl rfl rfl ?_ ?_
      · refine rf_load rfl rfl rfl Try.underlying3 rfl (fun w hw => (Kn.hd0 (Kn.tl (Kn.tl (Kn.tlU hw)))).at rfl) ?_
        simp only [qz]
        refine rg_nil ?_
        refine ek_rr ?_
        refine rr_hard2 (i := 2) (j := 3) (f := 1) (g := 0) (by kernel_rfl) rfl rfl rfl rfl ?_ ?_
        · refine rg_newS (cs := ?_) (ty := ?_) (n := 1) (c := 1) (by rfl) (fun w => ?_) (fun _ h => by cases h) (fun g3 => ?_); rotate_left 2
          focus (go_simp; rfl)
          simp only [qz]
          refine rg_nil ?_
          refine ek_rr ?_
          refine rr_hard1 (i := 3) (f := 0) (by kernel_rfl) rfl rfl ?_
          refine rg_move ?_
          simp only [qz]
          refine rg_nil ?_
          refine ek_rr ?_
          refine rr_hard1 (i := 4) (f := 1) (by kernel_rfl) rfl rfl ?_
          refine rg_consZ (x := (p : Int) - ((t : Nat) : Int)) (by rfl) rfl rfl (fun w hw => hAd hw (List.Sublist.cons _ (List.sublist_append_left _ _))) (by omega) hl0 (List.Perm.refl _) (fun _ h => by cases h) (fun uP aP cP hOP => ?_)
          simp only [qz]
          refine rg_nil ?_
          refine ek_rr ?_
          refine rr_hard1 (i := 5) (f := 1) (by kernel_rfl) rfl rfl ?_
          refine rg_yieldP hR hCz (by simp) (by simp; omega) (by simp only [List.length_append, List.length_map]; omega) hOP (((((((((((List.Perm.refl _).cons _).trans (List.perm_middle (l₁ := uD)).symm).cons _).trans (List.perm_middle (l₁ := uD)).symm).cons _).trans (List.perm_middle (l₁ := uD)).symm).append_left _).trans (List.perm_append_comm_assoc uN uD _)).trans ((List.Perm.refl _).append_left _)).append_left _) (by rfl) rfl (by simp only [qm, qs, Act.eval, List.length_cons] <;> rfl) (fun uE hCE => ?_)
          simp only [qz]
          refine rg_nil ?_
          refine ek_rr ?_
          refine rr_hard1 (i := 6) (f := 0) (by kernel_rfl) rfl rfl ?_
          refine rf_not rfl rfl rfl ?_
          simp only [qz]
          refine rg_nil ?_
          refine ek_rr ?_
          refine rr_nil (by kernel_rfl) ?_
          refine ek_next (wk_cond_f rfl (wk_skip (ek_block ?_)))
          refine ek_sub (List.Sublist.append_left ((sc _ (sc _ (sc _ (List.Sublist.refl _)))).trans (List.sublist_append_right _ _)) _) ?_
          refine ek_perm ((((List.Perm.refl _).append_left _).trans (List.perm_middle (l₁ := uE))).trans (((((List.Perm.refl _).append_left _).trans (List.perm_middle (l₁ := uE))).trans (((((List.Perm.refl _).append_left _).trans (List.perm_middle (l₁ := uE))).trans ((List.Perm.refl _).cons _)).cons _)).cons _)) ?_
          refine ek_roundEnd (Rep.here _) (fun w hw => ⟨_, rfl, ⟨uE, rfl, ?_⟩, hw⟩)
          have h := hCE
          rw [show (p : Int) - ((t : Nat) : Int) = ((p - t : Nat) : Int) by omega] at h
          simpa [List.append_assoc] using h
        · refine rg_move ?_
          simp only [qz]
          refine rg_nil ?_
          refine ek_rr ?_
          refine rr_hard1 (i := 2) (f := 1) (by kernel_rfl) rfl rfl ?_
          refine rg_newS (cs := ?_) (ty := ?_) (n := 1) (c := 1) (by rfl) (fun w => ?_) (fun _ h => by cases h) (fun g4 => ?_); rotate_left 2
          focus (go_simp; rfl)
          simp only [qz]
          refine rg_nil ?_
          refine ek_rr ?_
          refine rr_hard1 (i := 4) (f := 1) (by kernel_rfl) rfl rfl ?_
          refine rg_consZ (x := (p : Int) - ((t : Nat) : Int)) (by rfl) rfl rfl (fun w hw => hAd hw (List.Sublist.cons _ (List.sublist_append_left _ _))) (by omega) hl0 (List.Perm.refl _) (fun _ h => by cases h) (fun uP aP cP hOP => ?_)
          simp only [qz]
          refine rg_nil ?_
          refine ek_rr ?_
          refine rr_hard1 (i := 5) (f := 1) (by kernel_rfl) rfl rfl ?_
          refine rg_yieldP hR hCz (by simp) (by simp; omega) (by simp only [List.length_append, List.length_map]; omega) hOP (((((((((((List.Perm.refl _).cons _).trans (List.perm_middle (l₁ := uD)).symm).cons _).trans (List.perm_middle (l₁ := uD)).symm).cons _).trans (List.perm_middle (l₁ := uD)).symm).append_left _).trans (List.perm_append_comm_assoc uN uD _)).trans ((List.Perm.refl _).append_left _)).append_left _) (by rfl) rfl (by simp only [qm, qs, Act.eval, List.length_cons] <;> rfl) (fun uE hCE => ?_)
          simp only [qz]
          refine rg_nil ?_
          refine ek_rr ?_
          refine rr_hard1 (i := 6) (f := 0) (by kernel_rfl) rfl rfl ?_
          refine rf_not rfl rfl rfl ?_
          simp only [qz]
          refine rg_nil ?_
          refine ek_rr ?_
          refine rr_nil (by kernel_rfl) ?_
          refine ek_next (wk_cond_f rfl (wk_skip (ek_block ?_)))
          refine ek_sub (List.Sublist.append_left ((sc _ (sc _ (sc _ (List.Sublist.refl _)))).trans (List.sublist_append_right _ _)) _) ?_
          refine ek_perm ((((List.Perm.refl _).append_left _).trans (List.perm_middle (l₁ := uE))).trans (((((List.Perm.refl _).append_left _).trans (List.perm_middle (l₁ := uE))).trans (((((List.Perm.refl _).append_left _).trans (List.perm_middle (l₁ := uE))).trans ((List.Perm.refl _).cons _)).cons _)).cons _)) ?_
          refine ek_roundEnd (Rep.here _) (fun w hw => ⟨_, rfl, ⟨uE, rfl, ?_⟩, hw⟩)
          have h := hCE
          rw [show (p : Int) - ((t : Nat) : Int) = ((p - t : Nat) : Int) by omega] at h
          simpa [List.append_assoc] using h
      · refine rg_move ?_
        simp only [qz]
        refine rg_nil ?_
        refine ek_rr ?_
        refine rr_hard1 (i := 1) (f := 0) (by kernel_rfl) rfl rfl ?_
        refine rf_load rfl rfl rfl Try.underlying3 rfl (fun w hw => (Kn.hd0 (Kn.tl (Kn.tl (Kn.tlU hw)))).at rfl) ?_
        simp only [qz]
        refine rg_nil ?_
        refine ek_rr ?_
        refine rr_hard1 (i := 2) (f := 1) (by kernel_rfl) rfl rfl ?_
        refine rg_newS (cs := ?_) (ty := ?_) (n := 1) (c := 1) (by rfl) (fun w => ?_) (fun _ h => by cases h) (fun g5 => ?_); rotate_left 2
        focus (go_simp; rfl)
        simp only [qz]
        refine rg_nil ?_
        refine ek_rr ?_
        refine rr_hard1 (i := 4) (f := 1) (by kernel_rfl) rfl rfl ?_
        refine rg_consZ (x := (p : Int) - ((t : Nat) : Int)) (by rfl) rfl rfl (fun w hw => hAd hw (List.Sublist.cons _ (List.sublist_append_left _ _))) (by omega) hl0 (List.Perm.refl _) (fun _ h => by cases h) (fun uP aP cP hOP => ?_)
        simp only [qz]
        refine rg_nil ?_
        refine ek_rr ?_
        refine rr_hard1 (i := 5) (f := 1) (by kernel_rfl) rfl rfl ?_
        refine rg_yieldP hR hCz (by simp) (by simp; omega) (by simp only [List.length_append, List.length_map]; omega) hOP (((((((((((List.Perm.refl _).cons _).trans (List.perm_middle (l₁ := uD)).symm).cons _).trans (List.perm_middle (l₁ := uD)).symm).cons _).trans (List.perm_middle (l₁ := uD)).symm).append_left _).trans (List.perm_append_comm_assoc uN uD _)).trans ((List.Perm.refl _).append_left _)).append_left _) (by rfl) rfl (by simp only [qm, qs, Act.eval, List.length_cons] <;> rfl) (fun uE hCE => ?_)
        simp only [qz]
        refine rg_nil ?_
        refine ek_rr ?_
        refine rr_hard1 (i := 6) (f := 0) (by kernel_rfl) rfl rfl ?_
        refine rf_not rfl rfl rfl ?_
        simp only [qz]
        refine rg_nil ?_
        refine ek_rr ?_
        refine rr_nil (by kernel_rfl) ?_
        refine ek_next (wk_cond_f rfl (wk_skip (ek_block ?_)))
        refine ek_sub (List.Sublist.append_left ((sc _ (sc _ (sc _ (List.Sublist.refl _)))).trans (List.sublist_append_right _ _)) _) ?_
        refine ek_perm ((((List.Perm.refl _).append_left _).trans (List.perm_middle (l₁ := uE))).trans (((((List.Perm.refl _).append_left _).trans (List.perm_middle (l₁ := uE))).trans (((((List.Perm.refl _).append_left _).trans (List.perm_middle (l₁ := uE))).trans ((List.Perm.refl _).cons _)).cons _)).cons _)) ?_
        refine ek_roundEnd (Rep.here _) (fun w hw => ⟨_, rfl, ⟨uE, rfl, ?_⟩, hw⟩)
        have h := hCE
        rw [show (p : Int) - ((t : Nat) : Int) = ((p - t : Nat) : Int) by omega] at h
        simpa [List.append_assoc] using h
    · refine rf_load rfl rfl rfl Try.underlying3 rfl (fun w hw => (Kn.hd0 (Kn.tl (Kn.tl (Kn.tlU hw)))).at rfl) ?_
      simp only [qz]
      refine rg_nil ?_
      refine ek_rr ?_
      refine rr_hard3 (i := 0) (j := 2) (k := 3) (f := 0) (g := 1) (e := 0) (by kernel_rfl) rfl rfl rfl rfl rfl rfl ?_ ?_ ?_
      · refine rf_load rfl rfl rfl Try.underlying57 rfl (fun w hw => (Kn.hd0 (Kn.tl (Kn.tlU hw))).at rfl) ?_
        simp only [qz]
        refine rg_nil ?_
        refine ek_rr ?_
        refine rr_hard2 (i := 2) (j := 3) (f := 1) (g := 0) (by kernel_rfl) rfl rfl rfl rfl ?_ ?_
        · refine rg_newS (cs := ?_) (ty := ?_) (n := 1) (c := 1) (by rfl) (fun w => ?_) (fun _ h => by cases h) (fun g6 => ?_); rotate_left 2
          focus (go_simp; rfl)
          simp only [qz]
          refine rg_nil ?_
          refine ek_rr ?_
          refine rr_hard1 (i := 3) (f := 0) (by kernel_rfl) rfl rfl ?_
          refine rg_move ?_
          simp only [qz]
          refine rg_nil ?_
          refine ek_rr ?_
          refine rr_hard1 (i := 4) (f := 1) (by kernel_rfl) rfl rfl ?_
          refine rg_consZ (x := (p : Int) - ((t : Nat) : Int)) (by rfl) rfl rfl (fun w hw => hAd hw (List.Sublist.cons _ (List.sublist_append_left _ _))) (by omega) hl0 (List.Perm.refl _) (fun _ h => by cases h) (fun uP aP cP hOP => ?_)
          simp only [qz]
          refine rg_nil ?_
          refine ek_rr ?_
          refine rr_hard1 (i := 5) (f := 1) (by kernel_rfl) rfl rfl ?_
          refine rg_yieldP hR hCz (by simp) (by simp; omega) (by simp only [List.length_append, List.length_map]; omega) hOP (((((((((((List.Perm.refl _).cons _).trans (List.perm_middle (l₁ := uD)).symm).cons _).trans (List.perm_middle (l₁ := uD)).symm).cons _).trans (List.perm_middle (l₁ := uD)).symm).append_left _).trans (List.perm_append_comm_assoc uN uD _)).trans ((List.Perm.refl _).append_left _)).append_left _) (by rfl) rfl (by simp only [qm, qs, Act.eval, List.length_cons] <;> rfl) (fun uE hCE => ?_)
          simp only [qz]
          refine rg_nil ?_
          refine ek_rr ?_
          refine rr_hard1 (i := 6) (f := 0) (by kernel_rfl) rfl rfl ?_
          refine rf_not rfl rfl rfl ?_
          simp only [qz]
          refine rg_nil ?_
          refine ek_rr ?_
          refine rr_nil (by kernel_rfl) ?_
          refine ek_next (wk_cond_f rfl (wk_skip (ek_block ?_)))
          refine ek_sub (List.Sublist.append_left ((sc _ (sc _ (sc _ (List.Sublist.refl _)))).trans (List.sublist_append_right _ _)) _) ?_
          refine ek_perm ((((List.Perm.refl _).append_left _).trans (List.perm_middle (l₁ := uE))).trans (((((List.Perm.refl _).append_left _).trans (List.perm_middle (l₁ := uE))).trans (((((List.Perm.refl _).append_left _).trans (List.perm_middle (l₁ := uE))).trans ((List.Perm.refl _).cons _)).cons _)).cons _)) ?_
          refine ek_roundEnd (Rep.here _) (fun w hw => ⟨_, rfl, ⟨uE, rfl, ?_⟩, hw⟩)
          have h := hCE
          rw [show (p : Int) - ((t : Nat) : Int) = ((p - t : Nat) : Int) by omega] at h
          simpa [List.append_assoc] using h
        · refine rg_move ?_
          simp only [qz]
          refine rg_nil ?_
          refine ek_rr ?_
          refine rr_hard1 (i := 2) (f := 1) (by kernel_rfl) rfl rfl ?_
          refine rg_newS (cs := ?_) (ty := ?_) (n := 1) (c := 1) (by rfl) (fun w => ?_) (fun _ h => by cases h) (fun g7 => ?_); rotate_left 2
          focus (go_simp; rfl)
          simp only [qz]
          refine rg_nil ?_
          refine ek_rr ?_
          refine rr_hard1 (i := 4) (f := 1) (by kernel_rfl) rfl rfl ?_
          refine rg_consZ (x := (p : Int) - ((t : Nat) : Int)) (by rfl) rfl rfl (fun w hw => hAd hw (List.Sublist.cons _ (List.sublist_append_left _ _))) (by omega) hl0 (List.Perm.refl _) (fun _ h => by cases h) (fun uP aP cP hOP => ?_)
          simp only [qz]
          refine rg_nil ?_
          refine ek_rr ?_
          refine rr_hard1 (i := 5) (f := 1) (by kernel_rfl) rfl rfl ?_
          refine rg_yieldP hR hCz (by simp) (by simp; omega) (by simp only [List.length_append, List.length_map]; omega) hOP (((((((((((List.Perm.refl _).cons _).trans (List.perm_middle (l₁ := uD)).symm).cons _).trans (List.perm_middle (l₁ := uD)).symm).cons _).trans (List.perm_middle (l₁ := uD)).symm).append_left _).trans (List.perm_append_comm_assoc uN uD _)).trans ((List.Perm.refl _).append_left _)).append_left _) (by rfl) rfl (by simp only [qm, qs, Act.eval, List.length_cons] <;> rfl) (fun uE hCE => ?_)
          simp only [qz]
          refine rg_nil ?_
          refine ek_rr ?_
          refine rr_hard1 (i := 6) (f := 0) (by kernel_rfl) rfl rfl ?_
          refine rf_not rfl rfl rfl ?_
          simp only [qz]
          refine rg_nil ?_
          refine ek_rr ?_
          refine rr_nil (by kernel_rfl) ?_
          refine ek_next (wk_cond_f rfl (wk_skip (ek_block ?_)))
          refine ek_sub (List.Sublist.append_left ((sc _ (sc _ (sc _ (List.Sublist.refl _)))).trans (List.sublist_append_right _ _)) _) ?_
          refine ek_perm ((((List.Perm.refl _).append_left _).trans (List.perm_middle (l₁ := uE))).trans (((((List.Perm.refl _).append_left _).trans (List.perm_middle (l₁ := uE))).trans (((((List.Perm.refl _).append_left _).trans (List.perm_middle (l₁ := uE))).trans ((List.Perm.refl _).cons _)).cons _)).cons _)) ?_
          refine ek_roundEnd (Rep.here _) (fun w hw => ⟨_, rfl, ⟨uE, rfl, ?_⟩, hw⟩)
          have h := hCE
          rw [show (p : Int) - ((t : Nat) : Int) = ((p - t : Nat) : Int) by omega] at h
          simpa [List.append_assoc] using h
      · refine rg_newS (cs := ?_) (ty := ?_) (n := 1) (c := 1) (by rfl) (fun w => ?_) (fun _ h => by cases h) (fun g8 => ?_); rotate_left 2
        focus (go_simp; rfl)
        simp only [qz]
        refine rg_nil ?_
        refine ek_rr ?_
        refine rr_hard2 (i := 0) (j := 3) (f := 0) (g := 0) (by kernel_rfl) rfl rfl rfl rfl ?_ ?_
        · refine rf_load rfl rfl rfl Try.underlying57 rfl (fun w hw => (Kn.hd0 (Kn.tl (Kn.tlU (Kn.tl hw)))).at rfl) ?_
          simp only [qz]
          refine rg_nil ?_
          refine ek_rr ?_
          refine rr_hard1 (i := 3) (f := 0) (by kernel_rfl) rfl rfl ?_
          refine rg_move ?_
          simp only [qz]
          refine rg_nil ?_
          refine ek_rr ?_
          refine rr_hard1 (i := 4) (f := 1) (by kernel_rfl) rfl rfl ?_
          refine rg_consZ (x := (p : Int) - ((t : Nat) : Int)) (by rfl) rfl rfl (fun w hw => hAd hw (List.Sublist.cons _ (List.sublist_append_left _ _))) (by omega) hl0 (List.Perm.refl _) (fun _ h => by cases h) (fun uP aP cP hOP => ?_)
          simp only [qz]
          refine rg_nil ?_
          refine ek_rr ?_
          refine rr_hard1 (i := 5) (f := 1) (by kernel_rfl) rfl rfl ?_
          refine rg_yieldP hR hCz (by simp) (by simp; omega) (by simp only [List.length_append, List.length_map]; omega) hOP (((((((((((List.Perm.refl _).cons _).trans (List.perm_middle (l₁ := uD)).symm).cons _).trans (List.perm_middle (l₁ := uD)).symm).cons _).trans (List.perm_middle (l₁ := uD)).symm).append_left _).trans (List.perm_append_comm_assoc uN uD _)).trans ((List.Perm.refl _).append_left _)).append_left _) (by rfl) rfl (by simp only [qm, qs, Act.eval, List.length_cons] <;> rfl) (fun uE hCE => ?_)
          simp only [qz]
          refine rg_nil ?_
          refine ek_rr ?_
          refine rr_hard1 (i := 6) (f := 0) (by kernel_rfl) rfl rfl ?_
          refine rf_not rfl rfl rfl ?_
          simp only [qz]
          refine rg_nil ?_
          refine ek_rr ?_
          refine rr_nil (by kernel_rfl) ?_
          refine ek_next (wk_cond_f rfl (wk_skip (ek_block ?_)))
          refine ek_sub (List.Sublist.append_left ((sc _ (sc _ (sc _ (List.Sublist.refl _)))).trans (List.sublist_append_right _ _)) _) ?_
          refine ek_perm ((((List.Perm.refl _).append_left _).trans (List.perm_middle (l₁ := uE))).trans (((((List.Perm.refl _).append_left _).trans (List.perm_middle (l₁ := uE))).trans (((((List.Perm.refl _).append_left _).trans (List.perm_middle (l₁ := uE))).trans ((List.Perm.refl _).cons _)).cons _)).cons _)) ?_
          refine ek_roundEnd (Rep.here _) (fun w hw => ⟨_, rfl, ⟨uE, rfl, ?_⟩, hw⟩)
          have h := hCE
          rw [show (p : Int) - ((t : Nat) : Int) = ((p - t : Nat) : Int) by omega] at h
          simpa [List.append_assoc] using h
        · refine rg_move ?_
          simp only [qz]
          refine rg_nil ?_
          refine ek_rr ?_
          refine rr_hard2 (i := 0) (j := 4) (f := 0) (g := 1) (by kernel_rfl) rfl rfl rfl rfl ?_ ?_
          · refine rf_load rfl rfl rfl Try.underlying57 rfl (fun w hw => (Kn.hd0 (Kn.tl (Kn.tlU (Kn.tl hw)))).at rfl) ?_
            simp only [qz]
            refine rg_nil ?_
            refine ek_rr ?_
            refine rr_hard1 (i := 4) (f := 1) (by kernel_rfl) rfl rfl ?_
            refine rg_consZ (x := (p : Int) - ((t : Nat) : Int)) (by rfl) rfl rfl (fun w hw => hAd hw (List.Sublist.cons _ (List.sublist_append_left _ _))) (by omega) hl0 (List.Perm.refl _) (fun _ h => by cases h) (fun uP aP cP hOP => ?_)
            simp only [qz]
            refine rg_nil ?_
            refine ek_rr ?_
            refine rr_hard1 (i := 5) (f := 1) (by kernel_rfl) rfl rfl ?_
            refine rg_yieldP hR hCz (by simp) (by simp; omega) (by simp only [List.length_append, List.length_map]; omega) hOP (((((((((((List.Perm.refl _).cons _).trans (List.perm_middle (l₁ := uD)).symm).cons _).trans (List.perm_middle (l₁ := uD)).symm).cons _).trans (List.perm_middle (l₁ := uD)).symm).append_left _).trans (List.perm_append_comm_assoc uN uD _)).trans ((List.Perm.refl _).append_left _)).append_left _) (by rfl) rfl (by simp only [qm, qs, Act.eval, List.length_cons] <;> rfl) (fun uE hCE => ?_)
            simp only [qz]
            refine rg_nil ?_
            refine ek_rr ?_
            refine rr_hard1 (i := 6) (f := 0) (by kernel_rfl) rfl rfl ?_
            refine rf_not rfl rfl rfl ?_
            simp only [qz]
            refine rg_nil ?_
            refine ek_rr ?_
            refine rr_nil (by kernel_rfl) ?_
            refine ek_next (wk_cond_f rfl (wk_skip (ek_block ?_)))
            refine ek_sub (List.Sublist.append_left ((sc _ (sc _ (sc _ (List.Sublist.refl _)))).trans (List.sublist_append_right _ _)) _) ?_
            refine ek_perm ((((List.Perm.refl _).append_left _).trans (List.perm_middle (l₁ := uE))).trans (((((List.Perm.refl _).append_left _).trans (List.perm_middle (l₁ := uE))).trans (((((List.Perm.refl _).append_left _).trans (List.perm_middle (l₁ := uE))).trans ((List.Perm.refl _).cons _)).cons _)).cons _)) ?_
            refine ek_roundEnd (Rep.here _) (fun w hw => ⟨_, rfl, ⟨uE, rfl, ?_⟩, hw⟩)
            have h := hCE
            rw [show (p : Int) - ((t : Nat) : Int) = ((p - t : Nat) : Int) by omega] at h
            simpa [List.append_assoc] using h
          · refine rg_consZ (x := (p : Int) - ((t : Nat) : Int)) (by rfl) rfl rfl (fun w hw => hAd hw (List.Sublist.cons _ (List.sublist_append_left _ _))) (by omega) hl0 (List.Perm.refl _) (fun _ h => by cases h) (fun uP aP cP hOP => ?_)
            simp only [qz]
            refine rg_nil ?_
            refine ek_rr ?_
            refine rr_hard1 (i := 0) (f := 0) (by kernel_rfl) rfl rfl ?_
            refine rf_load rfl rfl rfl Try.underlying57 rfl (fun w hw => (Kn.hd0 (Kn.tl (Kn.tlU (Kn.tlU hw)))).at rfl) ?_
            simp only [qz]
            refine rg_nil ?_
            refine ek_rr ?_
            refine rr_hard1 (i := 5) (f := 1) (by kernel_rfl) rfl rfl ?_
            refine rg_yieldP hR hCz (by simp) (by simp; omega) (by simp only [List.length_append, List.length_map]; omega) hOP (((((((((((List.Perm.refl _).cons _).trans (List.perm_middle (l₁ := uD)).symm).cons _).trans (List.perm_middle (l₁ := uD)).symm).cons _).trans (List.perm_middle (l₁ := uD)).symm).append_left _).trans (List.perm_append_comm_assoc uN uD _)).trans ((List.Perm.refl _).append_left _)).append_left _) (by rfl) rfl (by simp only [qm, qs, Act.eval, List.length_cons] <;> rfl) (fun uE hCE => ?_)
            simp only [qz]
            refine rg_nil ?_
            refine ek_rr ?_
            refine rr_hard1 (i := 6) (f := 0) (by kernel_rfl) rfl rfl ?_
            refine rf_not rfl rfl rfl ?_
            simp only [qz]
            refine rg_nil ?_
            refine ek_rr ?_
            refine rr_nil (by kernel_rfl) ?_
            refine ek_next (wk_cond_f rfl (wk_skip (ek_block ?_)))
            refine ek_sub (List.Sublist.append_left ((sc _ (sc _ (sc _ (List.Sublist.refl _)))).trans (List.sublist_append_right _ _)) _) ?_
            refine ek_perm ((((List.Perm.refl _).append_left _).trans (List.perm_middle (l₁ := uE))).trans (((((List.Perm.refl _).append_left _).trans (List.perm_middle (l₁ := uE))).trans (((((List.Perm.refl _).append_left _).trans (List.perm_middle (l₁ := uE))).trans ((List.Perm.refl _).cons _)).cons _)).cons _)) ?_
            refine ek_roundEnd (Rep.here _) (fun w hw => ⟨_, rfl, ⟨uE, rfl, ?_⟩, hw⟩)
            have h := hCE
            rw [show (p : Int) - ((t : Nat) : Int) = ((p - t : Nat) : Int) by omega] at h
            simpa [List.append_assoc] using h
      · refine rg_move ?_
        simp only [qz]
        refine rg_nil ?_
        refine ek_rr ?_
        refine rr_hard2 (i := 0) (j := 2) (f := 0) (g := 1) (by kernel_rfl) rfl rfl rfl rfl ?_ ?_
        · refine rf_load rfl rfl rfl Try.underlying57 rfl (fun w hw => (Kn.hd0 (Kn.tl (Kn.tlU hw))).at rfl) ?_
          simp only [qz]
          refine rg_nil ?_
          refine ek_rr ?_
          refine rr_hard1 (i := 2) (f := 1) (by kernel_rfl) rfl rfl ?_
          refine rg_newS (cs := ?_) (ty := ?_) (n := 1) (c := 1) (by rfl) (fun w => ?_) (fun _ h => by cases h) (fun g9 => ?_); rotate_left 2
          focus (go_simp; rfl)
          simp only [qz]
          refine rg_nil ?_
          refine ek_rr ?_
          refine rr_hard1 (i := 4) (f := 1) (by kernel_rfl) rfl rfl ?_
          refine rg_consZ (x := (p : Int) - ((t : Nat) : Int)) (by rfl) rfl rfl (fun w hw => hAd hw (List.Sublist.cons _ (List.sublist_append_left _ _))) (by omega) hl0 (List.Perm.refl _) (fun _ h => by cases h) (fun uP aP cP hOP => ?_)
          simp only [qz]
          refine rg_nil ?_
          refine ek_rr ?_
          refine rr_hard1 (i := 5) (f := 1) (by kernel_rfl) rfl rfl ?_
          refine rg_yieldP hR hCz (by simp) (by simp; omega) (by simp only [List.length_append, List.length_map]; omega) hOP (((((((((((List.Perm.refl _).cons _).trans (List.perm_middle (l₁ := uD)).symm).cons _).trans (List.perm_middle (l₁ := uD)).symm).cons _).trans (List.perm_middle (l₁ := uD)).symm).append_left _).trans (List.perm_append_comm_assoc uN uD _)).trans ((List.Perm.refl _).append_left _)).append_left _) (by rfl) rfl (by simp only [qm, qs, Act.eval, List.length_cons] <;> rfl) (fun uE hCE => ?_)
          simp only [qz]
          refine rg_nil ?_
          refine ek_rr ?_
          refine rr_hard1 (i := 6) (f := 0) (by kernel_rfl) rfl rfl ?_
          refine rf_not rfl rfl rfl ?_
          simp only [qz]
          refine rg_nil ?_
          refine ek_rr ?_
          refine rr_nil (by kernel_rfl) ?_
          refine ek_next (wk_cond_f rfl (wk_skip (ek_block ?_)))
          refine ek_sub (List.Sublist.append_left ((sc _ (sc _ (sc _ (List.Sublist.refl _)))).trans (List.sublist_append_right _ _)) _) ?_
          refine ek_perm ((((List.Perm.refl _).append_left _).trans (List.perm_middle (l₁ := uE))).trans (((((List.Perm.refl _).append_left _).trans (List.perm_middle (l₁ := uE))).trans (((((List.Perm.refl _).append_left _).trans (List.perm_middle (l₁ := uE))).trans ((List.Perm.refl _).cons _)).cons _)).cons _)) ?_
          refine ek_roundEnd (Rep.here _) (fun w hw => ⟨_, rfl, ⟨uE, rfl, ?_⟩, hw⟩)
          have h := hCE
          rw [show (p : Int) - ((t : Nat) : Int) = ((p - t : Nat) : Int) by omega] at h
          simpa [List.append_assoc] using h
        · refine rg_newS (cs := ?_) (ty := ?_) (n := 1) (c := 1) (by rfl) (fun w => ?_) (fun _ h => by cases h) (fun g10 => ?_); rotate_left 2
          focus (go_simp; rfl)
          simp only [qz]
          refine rg_nil ?_
          refine ek_rr ?_
          refine rr_hard2 (i := 0) (j := 4) (f := 0) (g := 1) (by kernel_rfl) rfl rfl rfl rfl ?_ ?_
          · refine rf_load rfl rfl rfl Try.underlying57 rfl (fun w hw => (Kn.hd0 (Kn.tl (Kn.tlU (Kn.tl hw)))).at rfl) ?_
            simp only [qz]
            refine rg_nil ?_
            refine ek_rr ?_
            refine rr_hard1 (i := 4) (f := 1) (by kernel_rfl) rfl rfl ?_
            refine rg_consZ (x := (p : Int) - ((t : Nat) : Int)) (by rfl) rfl rfl (fun w hw => hAd hw (List.Sublist.cons _ (List.sublist_append_left _ _))) (by omega) hl0 (List.Perm.refl _) (fun _ h => by cases h) (fun uP aP cP hOP => ?_)
            simp only [qz]
            refine rg_nil ?_
            refine ek_rr ?_
            refine rr_hard1 (i := 5) (f := 1) (by kernel_rfl) rfl rfl ?_
            refine rg_yieldP hR hCz (by simp) (by simp; omega) (by simp only [List.length_append, List.length_map]; omega) hOP (((((((((((List.Perm.refl _).cons _).trans (List.perm_middle (l₁ := uD)).symm).cons _).trans (List.perm_middle (l₁ := uD)).symm).cons _).trans (List.perm_middle (l₁ := uD)).symm).append_left _).trans (List.perm_append_comm_assoc uN uD _)).trans ((List.Perm.refl _).append_left _)).append_left _) (by rfl) rfl (by simp only [qm, qs, Act.eval, List.length_cons] <;> rfl) (fun uE hCE => ?_)
            simp only [qz]
            refine rg_nil ?_
            refine ek_rr ?_
            refine rr_hard1 (i := 6) (f := 0) (by kernel_rfl) rfl rfl ?_
            refine rf_not rfl rfl rfl ?_
            simp only [qz]
            refine rg_nil ?_
            refine ek_rr ?_
            refine rr_nil (by kernel_rfl) ?_
            refine ek_next (wk_cond_f rfl (wk_skip (ek_block ?_)))
            refine ek_sub (List.Sublist.append_left ((sc _ (sc _ (sc _ (List.Sublist.refl _)))).trans (List.sublist_append_right _ _)) _) ?_
            refine ek_perm ((((List.Perm.refl _).append_left _).trans (List.perm_middle (l₁ := uE))).trans (((((List.Perm.refl _).append_left _).trans (List.perm_middle (l₁ := uE))).trans (((((List.Perm.refl _).append_left _).trans (List.perm_middle (l₁ := uE))).trans ((List.Perm.refl _).cons _)).cons _)).cons _)) ?_
            refine ek_roundEnd (Rep.here _) (fun w hw => ⟨_, rfl, ⟨uE, rfl, ?_⟩, hw⟩)
            have h := hCE
            rw [show (p : Int) - ((t : Nat) : Int) = ((p - t : Nat) : Int) by omega] at h
            simpa [List.append_assoc] using h
          · refine rg_consZ (x := (p : Int) - ((t : Nat) : Int)) (by rfl) rfl rfl (fun w hw => hAd hw (List.Sublist.cons _ (List.sublist_append_left _ _))) (by omega) hl0 (List.Perm.refl _) (fun _ h => by cases h) (fun uP aP cP hOP => ?_)
            simp only [qz]
            refine rg_nil ?_
            refine ek_rr ?_
            refine rr_hard1 (i := 0) (f := 0) (by kernel_rfl) rfl rfl ?_
            refine rf_load rfl rfl rfl Try.underlying57 rfl (fun w hw => (Kn.hd0 (Kn.tl (Kn.tlU (Kn.tlU hw)))).at rfl) ?_
            simp only [qz]
            refine rg_nil ?_
            refine ek_rr ?_
            refine rr_hard1 (i := 5) (f := 1) (by kernel_rfl) rfl rfl ?_
            refine rg_yieldP hR hCz (by simp) (by simp; omega) (by simp only [List.length_append, List.length_map]; omega) hOP (((((((((((List.Perm.refl _).cons _).trans (List.perm_middle (l₁ := uD)).symm).cons _).trans (List.perm_middle (l₁ := uD)).symm).cons _).trans (List.perm_middle (l₁ := uD)).symm).append_left _).trans (List.perm_append_comm_assoc uN uD _)).trans ((List.Perm.refl _).append_left _)).append_left _) (by rfl) rfl (by simp only [qm, qs, Act.eval, List.length_cons] <;> rfl) (fun uE hCE => ?_)
            simp only [qz]
            refine rg_nil ?_
            refine ek_rr ?_
            refine rr_hard1 (i := 6) (f := 0) (by kernel_rfl) rfl rfl ?_
            refine rf_not rfl rfl rfl ?_
            simp only [qz]
            refine rg_nil ?_
            refine ek_rr ?_
            refine rr_nil (by kernel_rfl) ?_
            refine ek_next (wk_cond_f rfl (wk_skip (ek_block ?_)))
            refine ek_sub (List.Sublist.append_left ((sc _ (sc _ (sc _ (List.Sublist.refl _)))).trans (List.sublist_append_right _ _)) _) ?_
            refine ek_perm ((((List.Perm.refl _).append_left _).trans (List.perm_middle (l₁ := uE))).trans (((((List.Perm.refl _).append_left _).trans (List.perm_middle (l₁ := uE))).trans (((((List.Perm.refl _).append_left _).trans (List.perm_middle (l₁ := uE))).trans ((List.Perm.refl _).cons _)).cons _)).cons _)) ?_
            refine ek_roundEnd (Rep.here _) (fun w hw => ⟨_, rfl, ⟨uE, rfl, ?_⟩, hw⟩)
            have h := hCE
            rw [show (p : Int) - ((t : Nat) : Int) = ((p - t : Nat) : Int) by omega] at h
            simpa [List.append_assoc] using h
    · refine rg_move ?_
      simp only [qz]
      refine rg_nil ?_
      refine ek_rr ?_
      refine rr_hard2 (i := 0) (j := 1) (f := 0) (g := 0) (by kernel_rfl) rfl rfl rfl rfl ?_ ?_
      · refine rf_load rfl rfl rfl Try.underlying57 rfl (fun w hw => (Kn.hd0 (Kn.tl (Kn.tlU hw))).at rfl) ?_
        simp only [qz]
        refine rg_nil ?_
        refine ek_rr ?_
        refine rr_hard1 (i := 1) (f := 0) (by kernel_rfl) rfl rfl ?_
        refine rf_load rfl rfl rfl Try.underlying3 rfl (fun w hw => (Kn.hd0 (Kn.tl (Kn.tl (Kn.tlU hw)))).at rfl) ?_
        simp only [qz]
        refine rg_nil ?_
        refine ek_rr ?_
        refine rr_hard1 (i := 2) (f := 1) (by kernel_rfl) rfl rfl ?_
        refine rg_newS (cs := ?_) (ty := ?_) (n := 1) (c := 1) (by rfl) (fun w => ?_) (fun _ h => by cases h) (fun g11 => ?_); rotate_left 2
        focus (go_simp; rfl)
        simp only [qz]
        refine rg_nil ?_
        refine ek_rr ?_
        refine rr_hard1 (i := 4) (f := 1) (by kernel_rfl) rfl rfl ?_
        refine rg_consZ (x := (p : Int) - ((t : Nat) : Int)) (by rfl) rfl rfl (fun w hw => hAd hw (List.Sublist.cons _ (List.sublist_append_left _ _))) (by omega) hl0 (List.Perm.refl _) (fun _ h => by cases h) (fun uP aP cP hOP => ?_)
        simp only [qz]
        refine rg_nil ?_
        refine ek_rr ?_
        refine rr_hard1 (i := 5) (f := 1) (by kernel_rfl) rfl rfl ?_
        refine rg_yieldP hR hCz (by simp) (by simp; omega) (by simp only [List.length_append, List.length_map]; omega) hOP (((((((((((List.Perm.refl _).cons _).trans (List.perm_middle (l₁ := uD)).symm).cons _).trans (List.perm_middle (l₁ := uD)).symm).cons _).trans (List.perm_middle (l₁ := uD)).symm).append_left _).trans (List.perm_append_comm_assoc uN uD _)).trans ((List.Perm.refl _).append_left _)).append_left _) (by rfl) rfl (by simp only [qm, qs, Act.eval, List.length_cons] <;> rfl) (fun uE hCE => ?_)
        simp only [qz]
        refine rg_nil ?_
        refine ek_rr ?_
        refine rr_hard1 (i := 6) (f := 0) (by kernel_rfl) rfl rfl ?_
        refine rf_not rfl rfl rfl ?_
        simp only [qz]
        refine rg_nil ?_
        refine ek_rr ?_
        refine rr_nil (by kernel_rfl) ?_
        refine ek_next (wk_cond_f rfl (wk_skip (ek_block ?_)))
        refine ek_sub (List.Sublist.append_left ((sc _ (sc _ (sc _ (List.Sublist.refl _)))).trans (List.sublist_append_right _ _)) _) ?_
        refine ek_perm ((((List.Perm.refl _).append_left _).trans (List.perm_middle (l₁ := uE))).trans (((((List.Perm.refl _).append_left _).trans (List.perm_middle (l₁ := uE))).trans (((((List.Perm.refl _).append_left _).trans (List.perm_middle (l₁ := uE))).trans ((List.Perm.refl _).cons _)).cons _)).cons _)) ?_
        refine ek_roundEnd (Rep.here _) (fun w hw => ⟨_, rfl, ⟨uE, rfl, ?_⟩, hw⟩)
        have h := hCE
        rw [show (p : Int) - ((t : Nat) : Int) = ((p - t : Nat) : Int) by omega] at h
        simpa [List.append_assoc] using h
      · refine rf_load rfl rfl rfl Try.underlying3 rfl (fun w hw => (Kn.hd0 (Kn.tl (Kn.tl (Kn.tlU hw)))).at rfl) ?_
        simp only [qz]
        refine rg_nil ?_
        refine ek_rr ?_
        refine rr_hard2 (i := 0) (j := 2) (f := 0) (g := 1) (by kernel_rfl) rfl rfl rfl rfl ?_ ?_
        · refine rf_load rfl rfl rfl Try.underlying57 rfl (fun w hw => (Kn.hd0 (Kn.tl (Kn.tlU hw))).at rfl) ?_
          simp only [qz]
          refine rg_nil ?_
          refine ek_rr ?_
          refine rr_hard1 (i := 2) (f := 1) (by kernel_rfl) rfl rfl ?_
          refine rg_newS (cs := ?_) (ty := ?_) (n := 1) (c := 1) (by rfl) (fun w => ?_) (fun _ h => by cases h) (fun g12 => ?_); rotate_left 2
          focus (go_simp; rfl)
          simp only [qz]
          refine rg_nil ?_
          refine ek_rr ?_
          refine rr_hard1 (i := 4) (f := 1) (by kernel_rfl) rfl rfl ?_
          refine rg_consZ (x := (p : Int) - ((t : Nat) : Int)) (by rfl) rfl rfl (fun w hw => hAd hw (List.Sublist.cons _ (List.sublist_append_left _ _))) (by omega) hl0 (List.Perm.refl _) (fun _ h => by cases h) (fun uP aP cP hOP => ?_)
          simp only [qz]
          refine rg_nil ?_
          refine ek_rr ?_
          refine rr_hard1 (i := 5) (f := 1) (by kernel_rfl) rfl rfl ?_
          refine rg_yieldP hR hCz (by simp) (by simp; omega) (by simp only [List.length_append, List.length_map]; omega) hOP (((((((((((List.Perm.refl _).cons _).trans (List.perm_middle (l₁ := uD)).symm).cons _).trans (List.perm_middle (l₁ := uD)).symm).cons _).trans (List.perm_middle (l₁ := uD)).symm).append_left _).trans (List.perm_append_comm_assoc uN uD _)).trans ((List.Perm.refl _).append_left _)).append_left _) (by rfl) rfl (by simp only [qm, qs, Act.eval, List.length_cons] <;> rfl) (fun uE hCE => ?_)
          simp only [qz]
          refine rg_nil ?_
          refine ek_rr ?_
          refine rr_hard1 (i := 6) (f := 0) (by kernel_rfl) rfl rfl ?_
          refine rf_not rfl rfl rfl ?_
          simp only [qz]
          refine rg_nil ?_
          refine ek_rr ?_
          refine rr_nil (by kernel_rfl) ?_
          refine ek_next (wk_cond_f rfl (wk_skip (ek_block ?_)))
          refine ek_sub (List.Sublist.append_left ((sc _ (sc _ (sc _ (List.Sublist.refl _)))).trans (List.sublist_append_right _ _)) _) ?_
          refine ek_perm ((((List.Perm.refl _).append_left _).trans (List.perm_middle (l₁ := uE))).trans (((((List.Perm.refl _).append_left _).trans (List.perm_middle (l₁ := uE))).trans (((((List.Perm.refl _).append_left _).trans (List.perm_middle (l₁ := uE))).trans ((List.Perm.refl _).cons _)).cons _)).cons _)) ?_
          refine ek_roundEnd (Rep.here _) (fun w hw => ⟨_, rfl, ⟨uE, rfl, ?_⟩, hw⟩)
          have h := hCE
          rw [show (p : Int) - ((t : Nat) : Int) = ((p - t : Nat) : Int) by omega] at h
          simpa [List.append_assoc] using h
        · refine rg_newS (cs := ?_) (ty := ?_) (n := 1) (c := 1) (by rfl) (fun w => ?_) (fun _ h => by cases h) (fun g13 => ?_); rotate_left 2
          focus (go_simp; rfl)
          simp only [qz]
          refine rg_nil ?_
          refine ek_rr ?_
          refine rr_hard2 (i := 0) (j := 4) (f := 0) (g := 1) (by kernel_rfl) rfl rfl rfl rfl ?_ ?_
          · refine rf_load rfl rfl rfl Try.underlying57 rfl (fun w hw => (Kn.hd0 (Kn.tl (Kn.tlU (Kn.tl hw)))).at rfl) ?_
            simp only [qz]
            refine rg_nil ?_
            refine ek_rr ?_
            refine rr_hard1 (i := 4) (f := 1) (by kernel_rfl) rfl rfl ?_
            refine rg_consZ (x := (p : Int) - ((t : Nat) : Int)) (by rfl) rfl rfl (fun w hw => hAd hw (List.Sublist.cons _ (List.sublist_append_left _ _))) (by omega) hl0 (List.Perm.refl _) (fun _ h => by cases h) (fun uP aP cP hOP => ?_)
            simp only [qz]
            refine rg_nil ?_
            refine ek_rr ?_
            refine rr_hard1 (i := 5) (f := 1) (by kernel_rfl) rfl rfl ?_
            refine rg_yieldP hR hCz (by simp) (by simp; omega) (by simp only [List.length_append, List.length_map]; omega) hOP (((((((((((List.Perm.refl _).cons _).trans (List.perm_middle (l₁ := uD)).symm).cons _).trans (List.perm_middle (l₁ := uD)).symm).cons _).trans (List.perm_middle (l₁ := uD)).symm).append_left _).trans (List.perm_append_comm_assoc uN uD _)).trans ((List.Perm.refl _).append_left _)).append_left _) (by rfl) rfl (by simp only [qm, qs, Act.eval, List.length_cons] <;> rfl) (fun uE hCE => ?_)
            simp only [qz]
            refine rg_nil ?_
            refine ek_rr ?_
            refine rr_hard1 (i := 6) (f := 0) (by kernel_rfl) rfl rfl ?_
            refine rf_not rfl rfl rfl ?_
            simp only [qz]
            refine rg_nil ?_
            refine ek_rr ?_
            refine rr_nil (by kernel_rfl) ?_
            refine ek_next (wk_cond_f rfl (wk_skip (ek_block ?_)))
            refine ek_sub (List.Sublist.append_left ((sc _ (sc _ (sc _ (List.Sublist.refl _)))).trans (List.sublist_append_right _ _)) _) ?_
            refine ek_perm ((((List.Perm.refl _).append_left _).trans (List.perm_middle (l₁ := uE))).trans (((((List.Perm.refl _).append_left _).trans (List.perm_middle (l₁ := uE))).trans (((((List.Perm.refl _).append_left _).trans (List.perm_middle (l₁ := uE))).trans ((List.Perm.refl _).cons _)).cons _)).cons _)) ?_
            refine ek_roundEnd (Rep.here _) (fun w hw => ⟨_, rfl, ⟨uE, rfl, ?_⟩, hw⟩)
            have h := hCE
            rw [show (p : Int) - ((t : Nat) : Int) = ((p - t : Nat) : Int) by omega] at h
            simpa [List.append_assoc] using h
          · refine rg_consZ (x := (p : Int) - ((t : Nat) : Int)) (by rfl) rfl rfl (fun w hw => hAd hw (List.Sublist.cons _ (List.sublist_append_left _ _))) (by omega) hl0 (List.Perm.refl _) (fun _ h => by cases h) (fun uP aP cP hOP => ?_)
            simp only [qz]
            refine rg_nil ?_
            refine ek_rr ?_
            refine rr_hard1 (i := 0) (f := 0) (by kernel_rfl) rfl rfl ?_
            refine rf_load rfl rfl rfl Try.underlying57 rfl (fun w hw => (Kn.hd0 (Kn.tl (Kn.tlU (Kn.tlU hw)))).at rfl) ?_
            simp only [qz]
            refine rg_nil ?_
            refine ek_rr ?_
            refine rr_hard1 (i := 5) (f := 1) (by kernel_rfl) rfl rfl ?_
            refine rg_yieldP hR hCz (by simp) (by simp; omega) (by simp only [List.length_append, List.length_map]; omega) hOP (((((((((((List.Perm.refl _).cons _).trans (List.perm_middle (l₁ := uD)).symm).cons _).trans (List.perm_middle (l₁ := uD)).symm).cons _).trans (List.perm_middle (l₁ := uD)).symm).append_left _).trans (List.perm_append_comm_assoc uN uD _)).trans ((List.Perm.refl _).append_left _)).append_left _) (by rfl) rfl (by simp only [qm, qs, Act.eval, List.length_cons] <;> rfl) (fun uE hCE => ?_)
            simp only [qz]
            refine rg_nil ?_
            refine ek_rr ?_
            refine rr_hard1 (i := 6) (f := 0) (by kernel_rfl) rfl rfl ?_
            refine rf_not rfl rfl rfl ?_
            simp only [qz]
            refine rg_nil ?_
            refine ek_rr ?_
            refine rr_nil (by kernel_rfl) ?_
            refine ek_next (wk_cond_f rfl (wk_skip (ek_block ?_)))
            refine ek_sub (List.Sublist.append_left ((sc _ (sc _ (sc _ (List.Sublist.refl _)))).trans (List.sublist_append_right _ _)) _) ?_
            refine ek_perm ((((List.Perm.refl _).append_left _).trans (List.perm_middle (l₁ := uE))).trans (((((List.Perm.refl _).append_left _).trans (List.perm_middle (l₁ := uE))).trans (((((List.Perm.refl _).append_left _).trans (List.perm_middle (l₁ := uE))).trans ((List.Perm.refl _).cons _)).cons _)).cons _)) ?_
            refine ek_roundEnd (Rep.here _) (fun w hw => ⟨_, rfl, ⟨uE, rfl, ?_⟩, hw⟩)
            have h := hCE
            rw [show (p : Int) - ((t : Nat) : Int) = ((p - t : Nat) : Int) by omega] at h
            simpa [List.append_assoc] using h
  have hpend : r2.pending = none := by subst hr2; rfl
  have hst : r2.state ≠ .busy := by (subst hr2; simp)
  clear hr2
  refine (IH t lq gm2 gp2 _ r2 _ [] _ w1 _ (by omega) (by simp) hR2 ⟨uC, rfl, by simpa using hC⟩ K3).mono ?_
  rintro e w2 ⟨rfl, sS, u2, ⟨uD, rfl, hCD⟩, hK⟩
  have K4 := Kn.effApp (v := (_ :: _ :: _ :: uC) ++ [_, _]) (rest := _) K2 hK
  simp only [List.cons_append, List.append_assoc, List.nil_append] at K4
  refine ⟨_, _, r2, _, rfl, K4, Rep.here _, hst, ?_⟩
  rw [hpend]
  simp only [List.nil_append] at hCD
  refine ek_block (ek_block (ek_next (wk_seq (wk_seq ?_))))
  refine wk_region [0] rfl (by kernel_rfl) ?_
  simp only [qy]
  refine rf_load rfl rfl rfl Try.underlying3 rfl (fun w hw => (Kn.hd0 (Kn.tl (Kn.tl hw))).at rfl) ?_
  simp only [qz]
  refine rg_nil (ek_next ?_)
  refine wk_region [1, 1] rfl (by kernel_rfl) ?_
  simp only [qy]
  refine rg_new (cs := ?_) (ty := ?_) (by rfl) (fun w => ?_) (fun _ h => by cases h) (fun g3 => ?_); rotate_left 2
  focus (go_simp; rfl)
  simp only [qz]
  refine rf_store rfl rfl (by kernel_rfl) rfl rfl (UpdR.here _ _ _ (Nat.le_of_ble_eq_true rfl)) (fun _ h => by cases h) ?_
  simp only [qz]
  refine rg_nil (ek_next ?_)
  refine wk_region [0, 0, 1] rfl (by kernel_rfl) ?_
  simp only [qy]
  refine rf_load rfl rfl rfl Try.underlying3 rfl (fun w hw => (Kn.hd0 hw).at rfl) ?_
  simp only [qz]
  refine rf_sub (r := (p : Int) - ((t + 1 : Nat) : Int)) rfl rfl rfl rfl (wrap_eq' (by omega) (by omega) (by omega)) ?_
  simp only [qz]
  refine rf_store rfl rfl (by kernel_rfl) rfl rfl (UpdR.here _ _ _ (Nat.le_of_ble_eq_true rfl)) (fun _ h => by cases h) ?_
  simp only [qz]
  refine rg_nil ?_
  refine ek_sub (sc _ (sk _ (sc _ (sk _ (List.Sublist.append_left ((sc _ (sc _ (sc _ (List.Sublist.append_left sn _)))).trans (List.sublist_append_right _ _)) _))))) ?_
  refine ek_perm ((((perm_at (l := [_]) (perm_at (l := [_]) (List.Perm.refl _))).append_left _).cons _).cons _) ?_
  refine ek_roundD (p + 1 - (t + 1)) (by omega) (by kernel_rfl) ?_
  exact ⟨t + 1, dd :: dl, uD, g3, rfl, rfl, rfl, rfl, by omega, (by have h := hCD; simpa [patsT, List.append_assoc] using h)⟩
theorem pat_all : ∀ m, m + 1 ≤ 6 → PatC (m + 1)
  | 0, _ => pat_one
  | m + 1, h => pat_step (by omega) (pat_all m (by omega))
end Go.Proofs.Ytjeijnjaleldkaa
