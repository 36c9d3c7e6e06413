/- Package matrix: all patterns. -/
import Derived.Test.YtjeijnjaleldkaaPt1
namespace Go.Proofs.Ytjeijnjaleldkaa
set_option linter.all false
open Go.RowKit

theorem pats_tab : ((List.range 7).all fun m => (List.range 6).all fun p => decide ((pats m p).length ≤ 1000)) = true := by kernel_rfl
theorem pats_small {m p : Nat} (hm : m ≤ 6) (hp : p ≤ 5) : (pats m p).length ≤ 1000 :=
  of_decide_eq_true (List.all_eq_true.1 (List.all_eq_true.1 pats_tab m (List.mem_range.2 (by omega))) p (List.mem_range.2 (by omega)))
theorem as2 {α : Type} {x y a b : α} {u r : List α} : x :: y :: (u ++ (a :: b :: r)) = ((x :: y :: u) ++ [a, b]) ++ r := by simp
set_option maxRecDepth 100000 in
set_option maxHeartbeats 1000000 in
theorem appendSeq_any (m p : Nat) (hm : m + 1 ≤ 6) (hp : p ≤ 5) (gm gp : Nat) (w : World) (F : List Nat) (K : Kn w F [(gm, .cells #[.int .i64 ((m + 1 : Nat) : Int)] 3), (gp, .cells #[.int .i64 p] 3)] w) : Calls Try.prog 117 #[.slice none 0 0, .func (.func 118) #[] #[.pointer (some ⟨gm, 0, none⟩), .pointer (some ⟨gp, 0, none⟩)]] w fun e w' => ∃ v U, e = .returned v ∧ OwnL U v (pats (m + 1) p) ∧ Kn w F U w' := by
  have hsm := pats_small (m := m + 1) (p := p) (by omega) hp
  refine calls_marksF K Try.func117 rfl ?_
  simp only [Try.ntmps117, List.size_toArray, List.length_cons, List.length_nil, Nat.reduceAdd, Nat.reduceSub, Array.replicate_succ, Array.replicate_zero, List.push_toArray, List.append_toArray, List.nil_append, List.cons_append]
  refine wk_seq ?_
  refine wk_region [1, 0] rfl (by kernel_rfl) ?_
  simp only [qy]
  refine rg_new (cs := ?_) (ty := ?_) (by rfl) (fun w => ?_) (fun _ h => by cases h) (fun g1 => ?_); rotate_left 2
  focus (go_simp; rfl)
  simp only [qz]
  refine rg_assign ?_
  simp only [qz]
  refine rg_nil (ek_next (wk_seq (wk_seq ?_)))
  refine wk_region [0] rfl (by kernel_rfl) ?_
  simp only [qy]
  refine rg_move ?_
  simp only [qz]
  refine rg_nil (ek_next (wk_block ?_))
  refine wk_rangeFunc (f := 118) (caps := #[.pointer (some ⟨gm, 0, none⟩), .pointer (some ⟨gp, 0, none⟩)]) rfl (by kernel_rfl) ?_
  intro fn dd lq w1 K1
  obtain ⟨r2, hr2⟩ := ex_loop K1
  rw [← hr2] at K1
  have K2 := K1.perm ((perm_at (l := [_]) (perm_at (l := [_]) (perm_at (l := [_]) (List.Perm.refl _)))).cons _)
  have K3 := Kn.self (v := (_ :: _ :: ([] : List Blk)) ++ [_, _]) (rest := [_]) K2
  have hR2 : RoundsP (pats (m + 1) p).length (m + 1) lq r2 (fun ys S => ∃ uT uS hs v, S = (lq, .loop r2) :: (g1, .cells #[v] 33) :: (uT ++ uS) ∧ Own 37 1 uT v ys.length hs ∧ RowsZ uS hs ys) := by
    subst hr2
    refine ⟨rfl, fun ys S ⟨_, _, _, _, e, _⟩ => by subst e; simp, ?_⟩
    intro R B F ys row uN v S uR w hl0 hl1 hyl ⟨uT, uS, hs, vT, hS, hOT, hRS⟩ hO K
    clear hl1
    subst hS
    simp only [List.cons_append, List.append_assoc] at K
    obtain ⟨av, cv, rfl, hcv⟩ := Own.val hO
    obtain ⟨aT, cT, rfl, hcT⟩ := Own.val hOT
    refine roundIn_kn (Rep.app _ (Rep.here _)) rfl ?_ K
    simp only [fold_zip1]
    simp only [qz]
    refine wk_region [0] rfl (by kernel_rfl) ?_
    simp only [qy]
    refine rg_assign ?_
    simp only [qz]
    refine rg_nil ?_
    refine ek_asg ?_
    refine wk_block ?_
    refine wk_region [0, 0, 1, 1, 1] rfl (by kernel_rfl) ?_
    simp only [qy]
    refine rf_load rfl rfl rfl Try.underlying33 rfl (fun w hw => (Kn.hd0 (Kn.tl (Kn.tlU hw))).at rfl) ?_
    simp only [qz]
    refine rg_move ?_
    simp only [qz]
    refine rg_newS (cs := ?_) (ty := ?_) (n := 1) (c := 1) (by rfl) (fun w => ?_) (fun _ h => by cases h) (fun g2 => ?_); rotate_left 2
    focus (go_simp; rfl)
    simp only [qz]
    refine rg_appL (h := .slice av row.length cv) (by rfl) rfl hOT rfl (by omega) rfl ((((((((((List.Perm.refl _).cons _).trans (List.perm_middle (l₁ := uT)).symm).cons _).trans (List.perm_middle (l₁ := uT)).symm).append_left _).trans (List.perm_append_comm_assoc uN uT _)).cons _).trans (List.perm_middle (l₁ := uT)).symm).trans ((List.Perm.refl _).append_left _)) (fun w hw => Kn.hd0 hw) (fun _ h => by cases h) (fun uP aP cP hOP => ?_)
    simp only [qz]
    refine rf_store rfl rfl (by kernel_rfl) rfl rfl (UpdR.app _ (UpdR.there _ (UpdR.app _ (UpdR.there _ (UpdR.here _ _ _ (Nat.le_of_ble_eq_true rfl)))))) (fun _ h => by cases h) ?_
    simp only [qz]
    refine rg_nil (ek_block ?_)
    refine ek_sub (List.Sublist.append_left (sk _ (List.Sublist.append_left (sc _ (sc _ (List.Sublist.append_left (List.Sublist.refl _) _))) _)) _) ?_
    refine ek_perm ((((((List.Perm.refl _).append_left _).trans (List.perm_middle (l₁ := uN))).append_left _).trans (List.perm_middle (l₁ := uP))).trans (((((((List.Perm.refl _).append_left _).trans (List.perm_middle (l₁ := uN))).append_left _).trans (List.perm_middle (l₁ := uP))).trans ((List.Perm.refl _).cons _)).cons _)) ?_
    refine ek_roundEnd (Rep.here _) (fun w hw => ⟨_, rfl, ⟨uP, uN ++ uS, _, _, rfl, (by rw [List.length_append]; exact hOP), hRS.snoc hO⟩, ?_⟩)
    simpa [List.append_assoc] using hw
  have hpend : r2.pending = none := by subst hr2; rfl
  have hst : r2.state ≠ .busy := by (subst hr2; simp)
  clear hr2
  refine (pat_all m (by omega) p lq gm gp _ r2 _ [] _ w1 _ hp (by simp) hR2 ⟨[], [], [], _, rfl, Own.nil _ _, .nil⟩ K3).mono ?_
  rintro e w2 ⟨rfl, sS, u2, ⟨uT, uS, hs, vT, rfl, hOT, hRS⟩, hK⟩
  have K4 := Kn.effApp (v := (_ :: _ :: ([] : List Blk)) ++ [_, _]) (rest := [_]) K2 hK
  simp only [List.cons_append, List.append_assoc, List.nil_append] at K4
  refine ⟨_, _, r2, _, rfl, K4, Rep.here _, hst, ?_⟩
  rw [hpend]
  simp only [List.nil_append] at hOT hRS
  refine ek_block (ek_next (wk_seq ?_))
  refine wk_region [0, 0] rfl (by kernel_rfl) ?_
  simp only [qy]
  refine rf_load rfl rfl rfl Try.underlying33 rfl (fun w hw => (Kn.hd0 (Kn.tl hw)).at rfl) ?_
  simp only [qz]
  refine rg_assign ?_
  simp only [qz]
  refine rg_nil (ek_next (wk_ret ?_))
  refine ek_sub (sk _ (sk _ (List.Sublist.append_left (List.Sublist.append_left ((sc _ sn).trans (List.sublist_append_right _ _)) _) _))) ?_
  refine ek_perm ((((((List.Perm.refl _).append_left _).trans (List.perm_middle (l₁ := uS))).append_left _).trans (List.perm_middle (l₁ := uT))).trans ((List.Perm.refl _).cons _)) ?_
  refine ek_retMn [dd] (fun w hw => ⟨_, res_t 4 rfl, ?_⟩)
  (try simp only [qz])
  exact ⟨vT, uT ++ uS, rfl, ⟨uT, uS, hs, rfl, hOT, hRS⟩, by simpa using hw⟩

set_option maxRecDepth 100000 in
set_option maxHeartbeats 1000000 in
theorem collect_any (m p : Nat) (hm : m + 1 ≤ 6) (hp : p ≤ 5) (gm gp : Nat) (w : World) (F : List Nat) (K : Kn w F [(gm, .cells #[.int .i64 ((m + 1 : Nat) : Int)] 3), (gp, .cells #[.int .i64 p] 3)] w) : Calls Try.prog 68 #[.func (.func 118) #[] #[.pointer (some ⟨gm, 0, none⟩), .pointer (some ⟨gp, 0, none⟩)]] w fun e w' => ∃ v U, e = .returned v ∧ OwnL U v (pats (m + 1) p) ∧ Kn w F U w' := by
  go_enter Try.func68, Try.ntmps68
  refine wk_startF K ?_
  refine wk_seq ?_
  refine wk_region [0] rfl (by kernel_rfl) ?_
  simp only [qy]
  refine rg_assign ?_
  simp only [qz]
  refine rg_nil (ek_next (wk_seq ?_))
  refine wk_region [0, 1, 0] rfl (by kernel_rfl) ?_
  simp only [qy]
  refine rg_move ?_
  simp only [qz]
  apply rg_call (by rfl) (by kernel_rfl)
  case hargs => (simp only [qm, qs, Act.eval]; exact rfl)
  refine fun w2 hw => (appendSeq_any m p hm hp gm gp w2 [gm, gp] (Kn.self (v := [_, _]) (rest := []) (by simpa using hw))).mono ?_
  rintro e w3 ⟨v, U, rfl, hO, hK⟩
  have K2 := Kn.effApp (v := [_, _]) (rest := []) (by simpa using hw) hK
  refine ⟨v, U, rfl, by simpa using K2, (fun _ h => by cases h), ?_⟩
  simp only [qz]
  refine rg_assign ?_
  simp only [qz]
  refine rg_nil (ek_next (wk_ret ?_))
  refine ek_ret (fun w hw => ⟨rfl, _, res_t _ rfl, ?_⟩)
  (try simp only [qz])
  exact ⟨v, U, rfl, hO, hw⟩

def patR (m p : Int) : List (List Int) := if 1 ≤ m ∧ m ≤ 6 ∧ 0 ≤ p ∧ p ≤ 5 then pats m.toNat p.toNat else []
def patE (m p : Int) : Int := if 1 ≤ m ∧ m ≤ 6 ∧ 0 ≤ p ∧ p ≤ 5 then 0 else 2
set_option maxRecDepth 100000 in
set_option maxHeartbeats 1000000 in
theorem mpatterns_any (mi pi : Int) (w : World) : Calls Try.prog 19 #[.int .i64 mi, .int .i64 pi] w fun e w' => RetL w (patR mi pi) (patE mi pi) e w' := by
  go_enter Try.func19, Try.ntmps19
  refine wk_start ?_
  refine wk_seq ?_
  refine wk_region [0, 0] rfl (by kernel_rfl) ?_
  simp only [qy]
  refine rg_assign ?_
  simp only [qz]
  refine rg_assign ?_
  simp only [qz]
  refine rg_nil (ek_next (wk_seq (wk_seq ?_)))
  refine wk_region [0, 0, 0, 0, 0, 0, 0, 0, 0, 0, 0, 0, 0, 0] rfl (by kernel_rfl) ?_
  simp only [qy]
  refine rg_move ?_
  simp only [qz]
  refine rfb_lss rfl rfl rfl rfl ?_
  intro x h1
  cases x
  · (try simp only [qd, ne_eq] at h1)
    simp only [qz]
    refine rg_move ?_
    simp only [qz]
    apply rg_soft_g
    case hg => rfl
    case hy => (intro w hw; go_simp; (try go_bits); exact Yld.mk _ _)
    simp only [qz]
    refine rfb_gtr rfl rfl rfl rfl ?_
    intro x h2
    cases x
    · (try simp only [qd, ne_eq] at h2)
      simp only [qz]
      refine rf_pick rfl rfl rfl ?_
      simp only [qz]
      refine rg_move ?_
      simp only [qz]
      apply rg_soft_g
      case hg => rfl
      case hy => (intro w hw; go_simp; (try go_bits); exact Yld.mk _ _)
      simp only [qz]
      refine rfb_lss rfl rfl rfl rfl ?_
      intro x h3
      cases x
      · (try simp only [qd, ne_eq] at h3)
        simp only [qz]
        refine rf_pick rfl rfl rfl ?_
        simp only [qz]
        refine rg_move ?_
        simp only [qz]
        apply rg_soft_g
        case hg => rfl
        case hy => (intro w hw; go_simp; (try go_bits); exact Yld.mk _ _)
        simp only [qz]
        refine rfb_gtr rfl rfl rfl rfl ?_
        intro x h4
        cases x
        · (try simp only [qd, ne_eq] at h4)
          simp only [qz]
          refine rf_pick rfl rfl rfl ?_
          simp only [qz]
          refine rg_nil (ek_next (wk_cond_f rfl (wk_skip (ek_next (wk_seq ?_)))))
          refine wk_region [0, 0, 1, 1, 0, 0] rfl (by kernel_rfl) ?_
          simp only [qy]
          refine rg_move ?_
          simp only [qz]
          refine rg_move ?_
          simp only [qz]
          obtain ⟨m, rfl⟩ : ∃ m : Nat, mi = ((m + 1 : Nat) : Int) := ⟨(mi - 1).toNat, by omega⟩
          obtain ⟨p, rfl⟩ : ∃ p : Nat, pi = p := ⟨pi.toNat, by omega⟩
          apply rg_made (T := fun v u => ∃ gm gp, v = .func (.func 118) #[] #[.pointer (some ⟨gm, 0, none⟩), .pointer (some ⟨gp, 0, none⟩)] ∧ u = [(gm, .cells #[.int .i64 ((m + 1 : Nat) : Int)] 3), (gp, .cells #[.int .i64 p] 3)]) (by rfl) (by kernel_rfl)
          case hargs => (simp only [qm, qs, Act.eval]; exact rfl)
          case h => exact fun w hw => (patterns_any ((m + 1 : Nat) : Int) p w).mono (fun e w' ⟨gm, gp, he, hm⟩ => ⟨_, _, he, ⟨gm, gp, rfl, rfl⟩, hm⟩)
          case hz => exact (fun _ h => by cases h)
          rintro _ _ ⟨gm, gp, rfl, rfl⟩
          simp only [List.cons_append, List.nil_append]
          simp only [qz]
          apply rg_call (by rfl) (by kernel_rfl)
          case hargs => (simp only [qm, qs, Act.eval]; exact rfl)
          refine fun w2 hw => (collect_any m p (by omega) (by omega) gm gp w2 [gm, gp] (Kn.self (v := [_, _]) (rest := []) (by simpa using hw))).mono ?_
          rintro e w3 ⟨v, U, rfl, hO, hK⟩
          have K2 := Kn.effApp (v := [_, _]) (rest := []) (by simpa using hw) hK
          refine ⟨v, U, rfl, by simpa using K2, (fun _ h => by cases h), ?_⟩
          simp only [qz]
          refine rg_assign ?_
          simp only [qz]
          refine rg_assign ?_
          simp only [qz]
          refine rg_nil (ek_next (wk_ret ?_))
          refine ek_ret (fun w hw => ⟨rfl, _, res_tt _ _ rfl, ?_⟩)
          (try simp only [qz])
          exact ⟨v, U, by unfold patE; rw [if_pos (by omega)], (by unfold patR; rw [if_pos (by omega)]; exact hO), hw.made (List.Sublist.refl _)⟩
        (try simp only [qd, ne_eq] at h4)
        simp only [qz]
        refine rf_pick rfl rfl rfl ?_
        simp only [qz]
        refine rg_nil (ek_next (wk_cond_t rfl (wk_seq ?_)))
        refine wk_region [0, 0] rfl (by kernel_rfl) ?_
        simp only [qy]
        refine rg_assign ?_
        simp only [qz]
        refine rg_assign ?_
        simp only [qz]
        refine rg_nil (ek_next (wk_ret (ek_then_ret ?_)))
        refine ek_ret (fun w hw => ⟨rfl, _, res_tt _ _ rfl, ?_⟩)
        (try simp only [qz])
        exact ⟨_, [], by unfold patE; rw [if_neg (by omega)], (by unfold patR; rw [if_neg (by omega)]; exact OwnL.nil), .nil hw.below⟩
      (try simp only [qd, ne_eq] at h3)
      simp only [qz]
      refine rf_pick rfl rfl rfl ?_
      simp only [qz]
      refine rg_move ?_
      simp only [qz]
      refine rg_skip (by rfl) ?_
      simp only [qz]
      refine rg_skip (by rfl) ?_
      simp only [qz]
      refine rf_pick rfl rfl rfl ?_
      simp only [qz]
      refine rg_nil (ek_next (wk_cond_t rfl (wk_seq ?_)))
      refine wk_region [0, 0] rfl (by kernel_rfl) ?_
      simp only [qy]
      refine rg_assign ?_
      simp only [qz]
      refine rg_assign ?_
      simp only [qz]
      refine rg_nil (ek_next (wk_ret (ek_then_ret ?_)))
      refine ek_ret (fun w hw => ⟨rfl, _, res_tt _ _ rfl, ?_⟩)
      (try simp only [qz])
      exact ⟨_, [], by unfold patE; rw [if_neg (by omega)], (by unfold patR; rw [if_neg (by omega)]; exact OwnL.nil), .nil hw.below⟩
    (try simp only [qd, ne_eq] at h2)
    simp only [qz]
    refine rf_pick rfl rfl rfl ?_
    simp only [qz]
    refine rg_move ?_
    simp only [qz]
    refine rg_skip (by rfl) ?_
    simp only [qz]
    refine rg_skip (by rfl) ?_
    simp only [qz]
    refine rf_pick rfl rfl rfl ?_
    simp only [qz]
    refine rg_move ?_
    simp only [qz]
    refine rg_skip (by rfl) ?_
    simp only [qz]
    refine rg_skip (by rfl) ?_
    simp only [qz]
    refine rf_pick rfl rfl rfl ?_
    simp only [qz]
    refine rg_nil (ek_next (wk_cond_t rfl (wk_seq ?_)))
    refine wk_region [0, 0] rfl (by kernel_rfl) ?_
    simp only [qy]
    refine rg_assign ?_
    simp only [qz]
    refine rg_assign ?_
    simp only [qz]
    refine rg_nil (ek_next (wk_ret (ek_then_ret ?_)))
    refine ek_ret (fun w hw => ⟨rfl, _, res_tt _ _ rfl, ?_⟩)
    (try simp only [qz])
    exact ⟨_, [], by unfold patE; rw [if_neg (by omega)], (by unfold patR; rw [if_neg (by omega)]; exact OwnL.nil), .nil hw.below⟩
  (try simp only [qd, ne_eq] at h1)
  simp only [qz]
  refine rg_move ?_
  simp only [qz]
  refine rg_skip (by rfl) ?_
  simp only [qz]
  refine rg_skip (by rfl) ?_
  simp only [qz]
  refine rf_pick rfl rfl rfl ?_
  simp only [qz]
  refine rg_move ?_
  simp only [qz]
  refine rg_skip (by rfl) ?_
  simp only [qz]
  refine rg_skip (by rfl) ?_
  simp only [qz]
  refine rf_pick rfl rfl rfl ?_
  simp only [qz]
  refine rg_move ?_
  simp only [qz]
  refine rg_skip (by rfl) ?_
  simp only [qz]
  refine rg_skip (by rfl) ?_
  simp only [qz]
  refine rf_pick rfl rfl rfl ?_
  simp only [qz]
  refine rg_nil (ek_next (wk_cond_t rfl (wk_seq ?_)))
  refine wk_region [0, 0] rfl (by kernel_rfl) ?_
  simp only [qy]
  refine rg_assign ?_
  simp only [qz]
  refine rg_assign ?_
  simp only [qz]
  refine rg_nil (ek_next (wk_ret (ek_then_ret ?_)))
  refine ek_ret (fun w hw => ⟨rfl, _, res_tt _ _ rfl, ?_⟩)
  (try simp only [qz])
  exact ⟨_, [], by unfold patE; rw [if_neg (by omega)], (by unfold patR; rw [if_neg (by omega)]; exact OwnL.nil), .nil hw.below⟩

end Go.Proofs.Ytjeijnjaleldkaa
