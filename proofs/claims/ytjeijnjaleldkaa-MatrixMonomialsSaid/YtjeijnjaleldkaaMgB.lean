/- Several texts in one. -/
import Derived.Test.YtjeijnjaleldkaaSq
import Derived.Test.YtjeijnjaleldkaaMo1
import Derived.Test.YtjeijnjaleldkaaEqA
import Derived.Test.YtjeijnjaleldkaaMoPl
import Derived.Test.YtjeijnjaleldkaaXi
import Derived.Test.YtjeijnjaleldkaaNmPl
import Derived.Test.YtjeijnjaleldkaaMt2a
import Derived.Test.YtjeijnjaleldkaaAm5
import Derived.Test.YtjeijnjaleldkaaMob
import Derived.Test.YtjeijnjaleldkaaWs4
import Derived.Test.YtjeijnjaleldkaaRo
import Derived.Test.YtjeijnjaleldkaaMx1
import Derived.Test.YtjeijnjaleldkaaPt0
import Derived.Test.YtjeijnjaleldkaaMt1
namespace Go.Proofs.Ytjeijnjaleldkaa
set_option linter.all false
open Go.RowKit

def tV (z : Nm) : Int := match turnIx z with
  | some t => t
  | none => 0
def tB (z : Nm) : Bool := (turnIx z).isSome
theorem tV_some {z : Nm} {t : Nat} (h : turnIx z = some t) : tV z = t ∧ tB z = true := by
  unfold tV tB; rw [h]; exact ⟨rfl, rfl⟩
theorem tn0 {z : Nm} (h : ¬ (z.k = 0 ∧ (z.a = z.a ∧ z.b = 0 ∧ z.c = 0 ∧ z.d = 0) ∧ (z.a = 1 ∨ z.a = -1))) : turnIx z ≠ some 0 ∧ turnIx z ≠ some 4 := by
  constructor
  · intro e
    have := (turnIx_iff z 0 (by decide)).1 e
    subst this; exact h (by decide)
  intro e
  have := (turnIx_iff z 4 (by decide)).1 e
  subst this; exact h (by decide)
theorem ty0 {z : Nm} (hk : z.k = 0) (h : z.a = z.a ∧ z.b = 0 ∧ z.c = 0 ∧ z.d = 0) : (z.a = 1 → tV z = 0 ∧ tB z = true) ∧ (z.a = -1 → tV z = 4 ∧ tB z = true) := by
  obtain ⟨a, b, c, d, k⟩ := z
  simp only at hk h
  constructor
  · intro h1; simp only at h1; simp_all; decide
  intro h1; simp only at h1; simp_all; decide
theorem tn1 {z : Nm} (h : ¬ (z.k = 0 ∧ (z.a = 0 ∧ z.b = z.b ∧ z.c = 0 ∧ z.d = 0) ∧ (z.b = 1 ∨ z.b = -1))) : turnIx z ≠ some 1 ∧ turnIx z ≠ some 5 := by
  constructor
  · intro e
    have := (turnIx_iff z 1 (by decide)).1 e
    subst this; exact h (by decide)
  intro e
  have := (turnIx_iff z 5 (by decide)).1 e
  subst this; exact h (by decide)
theorem ty1 {z : Nm} (hk : z.k = 0) (h : z.a = 0 ∧ z.b = z.b ∧ z.c = 0 ∧ z.d = 0) : (z.b = 1 → tV z = 1 ∧ tB z = true) ∧ (z.b = -1 → tV z = 5 ∧ tB z = true) := by
  obtain ⟨a, b, c, d, k⟩ := z
  simp only at hk h
  constructor
  · intro h1; simp only at h1; simp_all; decide
  intro h1; simp only at h1; simp_all; decide
theorem tn2 {z : Nm} (h : ¬ (z.k = 0 ∧ (z.a = 0 ∧ z.b = 0 ∧ z.c = z.c ∧ z.d = 0) ∧ (z.c = 1 ∨ z.c = -1))) : turnIx z ≠ some 2 ∧ turnIx z ≠ some 6 := by
  constructor
  · intro e
    have := (turnIx_iff z 2 (by decide)).1 e
    subst this; exact h (by decide)
  intro e
  have := (turnIx_iff z 6 (by decide)).1 e
  subst this; exact h (by decide)
theorem ty2 {z : Nm} (hk : z.k = 0) (h : z.a = 0 ∧ z.b = 0 ∧ z.c = z.c ∧ z.d = 0) : (z.c = 1 → tV z = 2 ∧ tB z = true) ∧ (z.c = -1 → tV z = 6 ∧ tB z = true) := by
  obtain ⟨a, b, c, d, k⟩ := z
  simp only at hk h
  constructor
  · intro h1; simp only at h1; simp_all; decide
  intro h1; simp only at h1; simp_all; decide
theorem tn3 {z : Nm} (h : ¬ (z.k = 0 ∧ (z.a = 0 ∧ z.b = 0 ∧ z.c = 0 ∧ z.d = z.d) ∧ (z.d = 1 ∨ z.d = -1))) : turnIx z ≠ some 3 ∧ turnIx z ≠ some 7 := by
  constructor
  · intro e
    have := (turnIx_iff z 3 (by decide)).1 e
    subst this; exact h (by decide)
  intro e
  have := (turnIx_iff z 7 (by decide)).1 e
  subst this; exact h (by decide)
theorem ty3 {z : Nm} (hk : z.k = 0) (h : z.a = 0 ∧ z.b = 0 ∧ z.c = 0 ∧ z.d = z.d) : (z.d = 1 → tV z = 3 ∧ tB z = true) ∧ (z.d = -1 → tV z = 7 ∧ tB z = true) := by
  obtain ⟨a, b, c, d, k⟩ := z
  simp only at hk h
  constructor
  · intro h1; simp only at h1; simp_all; decide
  intro h1; simp only at h1; simp_all; decide
theorem tn_all {z : Nm} (h0 : turnIx z ≠ some 0 ∧ turnIx z ≠ some 4) (h1 : turnIx z ≠ some 1 ∧ turnIx z ≠ some 5) (h2 : turnIx z ≠ some 2 ∧ turnIx z ≠ some 6) (h3 : turnIx z ≠ some 3 ∧ turnIx z ≠ some 7) : tV z = 0 ∧ tB z = false := by
  have hn : turnIx z = none := by
    cases h : turnIx z with
    | none => rfl
    | some t =>
      have := turnIx_lt h
      rw [h] at h0 h1 h2 h3
      rcases (by omega : t = 0 ∨ t = 1 ∨ t = 2 ∨ t = 3 ∨ t = 4 ∨ t = 5 ∨ t = 6 ∨ t = 7) with rfl | rfl | rfl | rfl | rfl | rfl | rfl | rfl
      · exact absurd rfl h0.1
      · exact absurd rfl h1.1
      · exact absurd rfl h2.1
      · exact absurd rfl h3.1
      · exact absurd rfl h0.2
      · exact absurd rfl h1.2
      · exact absurd rfl h2.2
      · exact absurd rfl h3.2
  unfold tV tB; rw [hn]; exact ⟨rfl, rfl⟩
set_option maxRecDepth 100000 in
set_option maxHeartbeats 1000000 in
theorem mturn_any (z : Nm) (hz : z.Ok) (w : World) : Calls Try.prog 81 #[nmV z] w fun e w' => e = .returned (.tuple #[.int .i64 (tV z), .bool (tB z)]) ∧ Below w.heap.size w w' := by
  go_enter Try.func81, Try.ntmps81
  refine wk_start ?_
  refine wk_seq ?_
  refine wk_region [1, 0, 0] rfl Kx ?_
  simp only [qy]
  refine Rgn fun g1 => ?_
  simp only [qz]
  refine rg_assign ?_
  simp only [qz]
  refine rg_assign ?_
  simp only [qz]
  refine rg_nil (ek_next (wk_seq (wk_seq ?_)))
  refine wk_region [0, 0, 0] rfl Kx ?_
  simp only [qy]
  refine rf_field (n := 3) (j := 0) rfl rfl rfl Try.underlying29 rfl Kx rfl ?_
  simp only [qz]
  refine rf_loadR (n := 4) rfl rfl rfl Try.underlying27 rfl Kx (fun w hw => Kn.hd0 hw) rfl rfl ?_
  simp only [qz]
  refine rg_move ?_
  simp only [qz]
  refine rg_nil (ek_next (wk_block ?_))
  refine wk_unroll 4 ?_
  refine wk_seq ?_
  refine wk_region [0] rfl Kx ?_
  simp only [qy]
  refine rf_lss (b := true) rfl rfl rfl rfl (by decide) ?_
  simp only [qz]
  refine rg_nil (ek_next (wk_seq (wk_cond_t rfl (wk_skip (ek_next ?_)))))
  refine wk_cutF [2, 3, 4, 5, 6, 11, 12, 13, 14, 15, 16, 17, 18, 19, 20, 21, 22, 23, 24, 25, 26, 27, 28, 29, 30, 31, 32, 33, 34, 35, 36, 37] (fun f s => s = ((g1, .cells #[.int .i64 z.a, .int .i64 z.b, .int .i64 z.c, .int .i64 z.d, .int .i64 z.k] 29) :: []) ∧ (turnIx z ≠ some 0 ∧ turnIx z ≠ some 4)) ?_ ?_
  · refine wk_block (wk_seq ?_)
    refine wk_region [0, 0, 0, 0] rfl Kx ?_
    simp only [qy]
    refine rg_move ?_
    simp only [qz]
    refine rf_idx1 (n := 0) (v := .int .i64 z.a) rfl rfl rfl rfl Try.underlying27 Try.underlying3 rfl Kx (by decide) rfl ?_
    simp only [qz]
    refine rg_assign ?_
    simp only [qz]
    refine rg_assign ?_
    simp only [qz]
    refine rg_nil (ek_next (wk_seq ?_))
    refine wk_region [1] rfl Kx ?_
    simp only [qy]
    refine Rgn fun g2 => ?_
    simp only [qz]
    refine rg_nil (ek_next (wk_seq ?_))
    refine wk_region [0, 0, 0, 1] rfl Kx ?_
    simp only [qy]
    refine rg_move ?_
    simp only [qz]
    refine rg_move ?_
    simp only [qz]
    refine rf_indexA (n := 0) (sz := 1) (j := 0) rfl rfl rfl rfl Try.underlying27 Kx (by decide) rfl ?_
    simp only [qz]
    refine rf_store rfl rfl Kx rfl rfl (UpdR.here _ _ _ Nl) Nz ?_
    simp only [qz]
    refine rg_nil (ek_next (wk_seq ?_))
    refine wk_region [0, 0, 0, 0, 0, 0, 0, 0, 0, 0, 0, 0, 0, 0, 0, 0, 0] rfl Kx ?_
    simp only [qy]
    refine rf_field (n := 0) (j := 4) rfl rfl rfl Try.underlying29 rfl Kx rfl ?_
    simp only [qz]
    refine rf_load rfl rfl rfl Try.underlying3 rfl (fun w hw => (Kn.hd0 (Kn.tl hw)).at rfl) ?_
    simp only [qz]
    refine rfb_eql rfl rfl rfl rfl ?_
    intro x h1
    cases x
    · (try simp only [qd, ne_eq] at h1)
      simp only [qz]
      refine rg_move ?_
      simp only [qz]
      refine rg_skip Rx ?_
      simp only [qz]
      refine rg_skip Rx ?_
      simp only [qz]
      refine rg_skip Rx ?_
      simp only [qz]
      refine rg_skip Rx ?_
      simp only [qz]
      refine rf_pick rfl rfl rfl ?_
      simp only [qz]
      refine rg_move ?_
      simp only [qz]
      refine rg_skip Rx ?_
      simp only [qz]
      refine rg_skip Rx ?_
      simp only [qz]
      refine rg_skip Rx ?_
      simp only [qz]
      refine rg_skip Rx ?_
      simp only [qz]
      refine rg_skip Rx ?_
      simp only [qz]
      refine rg_skip Rx ?_
      simp only [qz]
      refine rf_pick rfl rfl rfl ?_
      simp only [qz]
      refine rg_nil (ek_next (wk_cond_f rfl (wk_skip (ek_block ?_))))
      have hne := tn0 (z := z) (fun ⟨hh1, hh2, hh3⟩ => by omega)
      refine ek_sub (sk _ (sc _ sn)) ?_
      refine ek_midF Kx ?_
      exact ⟨by rfl, hne⟩
    (try simp only [qd, ne_eq] at h1)
    simp only [qz]
    refine rg_move ?_
    simp only [qz]
    refine rf_field (n := 3) (j := 0) rfl rfl rfl Try.underlying29 rfl Kx rfl ?_
    simp only [qz]
    refine rf_loadR (n := 4) rfl rfl rfl Try.underlying27 rfl Kx (fun w hw => Kn.hd0 (Kn.tl hw)) rfl rfl ?_
    simp only [qz]
    refine rf_loadR (n := 4) rfl rfl rfl Try.underlying27 rfl Kx (fun w hw => Kn.hd0 hw) rfl rfl ?_
    simp only [qz]
    refine rf_eqA4 rfl rfl rfl rfl ?_
    rcases he0 : decide (z.a = z.a ∧ z.b = 0 ∧ z.c = 0 ∧ z.d = 0) with _ | _
    · simp only [Act.put, Act.eval, qn, qv, Nat.reduceAdd]
      refine rf_pick rfl rfl rfl ?_
      simp only [qz]
      refine rg_move ?_
      simp only [qz]
      refine rg_skip Rx ?_
      simp only [qz]
      refine rg_skip Rx ?_
      simp only [qz]
      refine rg_skip Rx ?_
      simp only [qz]
      refine rg_skip Rx ?_
      simp only [qz]
      refine rg_skip Rx ?_
      simp only [qz]
      refine rg_skip Rx ?_
      simp only [qz]
      refine rf_pick rfl rfl rfl ?_
      simp only [qz]
      refine rg_nil (ek_next (wk_cond_f rfl (wk_skip (ek_block ?_))))
      have hne := tn0 (z := z) (fun ⟨hh1, hh2, hh3⟩ => by exact absurd hh2 (of_decide_eq_false he0))
      refine ek_sub (sk _ (sc _ sn)) ?_
      refine ek_midF Kx ?_
      exact ⟨by rfl, hne⟩
    simp only [Act.put, Act.eval, qn, qv, Nat.reduceAdd]
    refine rf_pick rfl rfl rfl ?_
    simp only [qz]
    refine rg_move ?_
    simp only [qz]
    apply rg_soft_g
    case hg => rfl
    case hy => (intro w hw; go_simp; (try go_bits); exact Yld.mk _ _)
    simp only [qz]
    refine rfb_eql rfl rfl rfl rfl ?_
    intro x h2
    cases x
    · (try simp only [qd, ne_eq] at h2)
      simp only [qz]
      apply rg_soft_g
      case hg => rfl
      case hy => (intro w hw; go_simp; (try go_bits); exact Yld.mk _ _)
      simp only [qz]
      apply rg_soft_g
      case hg => rfl
      case hy => (intro w hw; go_simp; (try go_bits); exact Yld.mk _ _)
      simp only [qz]
      refine rfb_eql rfl rfl rfl rfl ?_
      intro x h3
      cases x
      · (try simp only [qd, ne_eq] at h3)
        simp only [qz]
        refine rf_pick rfl rfl rfl ?_
        simp only [qz]
        refine rf_pick rfl rfl rfl ?_
        simp only [qz]
        refine rg_nil (ek_next (wk_cond_f rfl (wk_skip (ek_block ?_))))
        have hne := tn0 (z := z) (fun ⟨hh1, hh2, hh3⟩ => by omega)
        refine ek_sub (sk _ (sc _ sn)) ?_
        refine ek_midF Kx ?_
        exact ⟨by rfl, hne⟩
      (try simp only [qd, ne_eq] at h3)
      simp only [qz]
      refine rf_pick rfl rfl rfl ?_
      simp only [qz]
      refine rf_pick rfl rfl rfl ?_
      simp only [qz]
      refine rg_nil (ek_next (wk_cond_t rfl (wk_seq ?_)))
      refine wk_region [0, 0, 0, 0, 0, 0, 0] rfl Kx ?_
      simp only [qy]
      refine rg_move ?_
      simp only [qz]
      refine rf_add (r := 2) rfl rfl rfl rfl (by decide) ?_
      simp only [qz]
      refine rg_move ?_
      simp only [qz]
      refine rf_mul rfl rfl rfl rfl (wrap_ok Ox Ox) ?_
      simp only [qz]
      refine rf_sub rfl rfl rfl rfl (wrap_ok Ox Ox) ?_
      simp only [qz]
      refine rg_assign ?_
      simp only [qz]
      refine rg_assign ?_
      simp only [qz]
      refine rg_nil (ek_next (wk_ret (ek_block_ret (ek_then_ret (ek_then_ret (ek_block_ret (ek_then_ret ?_)))))))
      refine ek_ret (fun w hw => ⟨rfl, _, res_tt _ _ rfl, ?_⟩)
      (try simp only [qz])
      have hy := (ty0 (z := z) (by simpa using h1) (of_decide_eq_true he0)).2 h3
      exact ⟨by rw [hy.1, hy.2, h3]; rfl, hw.below⟩
    (try simp only [qd, ne_eq] at h2)
    simp only [qz]
    apply rg_soft_g
    case hg => rfl
    case hy => (intro w hw; go_simp; (try go_bits); exact Yld.mk _ _)
    simp only [qz]
    refine rg_skip Rx ?_
    simp only [qz]
    refine rg_skip Rx ?_
    simp only [qz]
    refine rf_pick rfl rfl rfl ?_
    simp only [qz]
    refine rf_pick rfl rfl rfl ?_
    simp only [qz]
    refine rg_nil (ek_next (wk_cond_t rfl (wk_seq ?_)))
    refine wk_region [0, 0, 0, 0, 0, 0, 0] rfl Kx ?_
    simp only [qy]
    refine rg_move ?_
    simp only [qz]
    refine rf_add (r := 2) rfl rfl rfl rfl (by decide) ?_
    simp only [qz]
    refine rg_move ?_
    simp only [qz]
    refine rf_mul rfl rfl rfl rfl (wrap_ok Ox Ox) ?_
    simp only [qz]
    refine rf_sub rfl rfl rfl rfl (wrap_ok Ox Ox) ?_
    simp only [qz]
    refine rg_assign ?_
    simp only [qz]
    refine rg_assign ?_
    simp only [qz]
    refine rg_nil (ek_next (wk_ret (ek_block_ret (ek_then_ret (ek_then_ret (ek_block_ret (ek_then_ret ?_)))))))
    refine ek_ret (fun w hw => ⟨rfl, _, res_tt _ _ rfl, ?_⟩)
    (try simp only [qz])
    have hy := (ty0 (z := z) (by simpa using h1) (of_decide_eq_true he0)).1 h2
    exact ⟨by rw [hy.1, hy.2, h2]; rfl, hw.below⟩
  rintro f1 s ⟨rfl, hm0⟩
  simp only [Act.putF, List.foldl_cons, List.foldl_nil, Act.put, Act.eval, q1, q2, q3, q4, q5, q6, q7, q8, q9, q10, q11, q12, q13, q14, q15, q16, q17, q18, Nat.reduceAdd, Bool.not_true, Bool.not_false]
  refine wk_region [0, 0] rfl Kx ?_
  simp only [qy]
  refine rf_add (r := 1) rfl rfl rfl rfl (by decide) ?_
  simp only [qz]
  refine rg_move ?_
  simp only [qz]
  refine rg_nil (ek_again (wk_seq ?_))
  refine wk_region [0] rfl Kx ?_
  simp only [qy]
  refine rf_lss (b := true) rfl rfl rfl rfl (by decide) ?_
  simp only [qz]
  refine rg_nil (ek_next (wk_seq (wk_cond_t rfl (wk_skip (ek_next ?_)))))
  refine wk_cutF [2, 3, 4, 5, 6, 11, 12, 13, 14, 15, 16, 17, 18, 19, 20, 21, 22, 23, 24, 25, 26, 27, 28, 29, 30, 31, 32, 33, 34, 35, 36, 37] (fun f s => s = ((g1, .cells #[.int .i64 z.a, .int .i64 z.b, .int .i64 z.c, .int .i64 z.d, .int .i64 z.k] 29) :: []) ∧ (turnIx z ≠ some 1 ∧ turnIx z ≠ some 5)) ?_ ?_
  · refine wk_block (wk_seq ?_)
    refine wk_region [0, 0, 0, 0] rfl Kx ?_
    simp only [qy]
    refine rg_move ?_
    simp only [qz]
    refine rf_idx1 (n := 1) (v := .int .i64 z.b) rfl rfl rfl rfl Try.underlying27 Try.underlying3 rfl Kx (by decide) rfl ?_
    simp only [qz]
    refine rg_assign ?_
    simp only [qz]
    refine rg_assign ?_
    simp only [qz]
    refine rg_nil (ek_next (wk_seq ?_))
    refine wk_region [1] rfl Kx ?_
    simp only [qy]
    refine Rgn fun g3 => ?_
    simp only [qz]
    refine rg_nil (ek_next (wk_seq ?_))
    refine wk_region [0, 0, 0, 1] rfl Kx ?_
    simp only [qy]
    refine rg_move ?_
    simp only [qz]
    refine rg_move ?_
    simp only [qz]
    refine rf_indexA (n := 1) (sz := 1) (j := 1) rfl rfl rfl rfl Try.underlying27 Kx (by decide) rfl ?_
    simp only [qz]
    refine rf_store rfl rfl Kx rfl rfl (UpdR.here _ _ _ Nl) Nz ?_
    simp only [qz]
    refine rg_nil (ek_next (wk_seq ?_))
    refine wk_region [0, 0, 0, 0, 0, 0, 0, 0, 0, 0, 0, 0, 0, 0, 0, 0, 0] rfl Kx ?_
    simp only [qy]
    refine rf_field (n := 0) (j := 4) rfl rfl rfl Try.underlying29 rfl Kx rfl ?_
    simp only [qz]
    refine rf_load rfl rfl rfl Try.underlying3 rfl (fun w hw => (Kn.hd0 (Kn.tl hw)).at rfl) ?_
    simp only [qz]
    refine rfb_eql rfl rfl rfl rfl ?_
    intro x h4
    cases x
    · (try simp only [qd, ne_eq] at h4)
      simp only [qz]
      refine rg_move ?_
      simp only [qz]
      refine rg_skip Rx ?_
      simp only [qz]
      refine rg_skip Rx ?_
      simp only [qz]
      refine rg_skip Rx ?_
      simp only [qz]
      refine rg_skip Rx ?_
      simp only [qz]
      refine rf_pick rfl rfl rfl ?_
      simp only [qz]
      refine rg_move ?_
      simp only [qz]
      refine rg_skip Rx ?_
      simp only [qz]
      refine rg_skip Rx ?_
      simp only [qz]
      refine rg_skip Rx ?_
      simp only [qz]
      refine rg_skip Rx ?_
      simp only [qz]
      refine rg_skip Rx ?_
      simp only [qz]
      refine rg_skip Rx ?_
      simp only [qz]
      refine rf_pick rfl rfl rfl ?_
      simp only [qz]
      refine rg_nil (ek_next (wk_cond_f rfl (wk_skip (ek_block ?_))))
      have hne := tn1 (z := z) (fun ⟨hh1, hh2, hh3⟩ => by omega)
      refine ek_sub (sk _ (sc _ sn)) ?_
      refine ek_midF Kx ?_
      exact ⟨by rfl, hne⟩
    (try simp only [qd, ne_eq] at h4)
    simp only [qz]
    refine rg_move ?_
    simp only [qz]
    refine rf_field (n := 3) (j := 0) rfl rfl rfl Try.underlying29 rfl Kx rfl ?_
    simp only [qz]
    refine rf_loadR (n := 4) rfl rfl rfl Try.underlying27 rfl Kx (fun w hw => Kn.hd0 (Kn.tl hw)) rfl rfl ?_
    simp only [qz]
    refine rf_loadR (n := 4) rfl rfl rfl Try.underlying27 rfl Kx (fun w hw => Kn.hd0 hw) rfl rfl ?_
    simp only [qz]
    refine rf_eqA4 rfl rfl rfl rfl ?_
    rcases he1 : decide (z.a = 0 ∧ z.b = z.b ∧ z.c = 0 ∧ z.d = 0) with _ | _
    · simp only [Act.put, Act.eval, qn, qv, Nat.reduceAdd]
      refine rf_pick rfl rfl rfl ?_
      simp only [qz]
      refine rg_move ?_
      simp only [qz]
      refine rg_skip Rx ?_
      simp only [qz]
      refine rg_skip Rx ?_
      simp only [qz]
      refine rg_skip Rx ?_
      simp only [qz]
      refine rg_skip Rx ?_
      simp only [qz]
      refine rg_skip Rx ?_
      simp only [qz]
      refine rg_skip Rx ?_
      simp only [qz]
      refine rf_pick rfl rfl rfl ?_
      simp only [qz]
      refine rg_nil (ek_next (wk_cond_f rfl (wk_skip (ek_block ?_))))
      have hne := tn1 (z := z) (fun ⟨hh1, hh2, hh3⟩ => by exact absurd hh2 (of_decide_eq_false he1))
      refine ek_sub (sk _ (sc _ sn)) ?_
      refine ek_midF Kx ?_
      exact ⟨by rfl, hne⟩
    simp only [Act.put, Act.eval, qn, qv, Nat.reduceAdd]
    refine rf_pick rfl rfl rfl ?_
    simp only [qz]
    refine rg_move ?_
    simp only [qz]
    apply rg_soft_g
    case hg => rfl
    case hy => (intro w hw; go_simp; (try go_bits); exact Yld.mk _ _)
    simp only [qz]
    refine rfb_eql rfl rfl rfl rfl ?_
    intro x h5
    cases x
    · (try simp only [qd, ne_eq] at h5)
      simp only [qz]
      apply rg_soft_g
      case hg => rfl
      case hy => (intro w hw; go_simp; (try go_bits); exact Yld.mk _ _)
      simp only [qz]
      apply rg_soft_g
      case hg => rfl
      case hy => (intro w hw; go_simp; (try go_bits); exact Yld.mk _ _)
      simp only [qz]
      refine rfb_eql rfl rfl rfl rfl ?_
      intro x h6
      cases x
      · (try simp only [qd, ne_eq] at h6)
        simp only [qz]
        refine rf_pick rfl rfl rfl ?_
        simp only [qz]
        refine rf_pick rfl rfl rfl ?_
        simp only [qz]
        refine rg_nil (ek_next (wk_cond_f rfl (wk_skip (ek_block ?_))))
        have hne := tn1 (z := z) (fun ⟨hh1, hh2, hh3⟩ => by omega)
        refine ek_sub (sk _ (sc _ sn)) ?_
        refine ek_midF Kx ?_
        exact ⟨by rfl, hne⟩
      (try simp only [qd, ne_eq] at h6)
      simp only [qz]
      refine rf_pick rfl rfl rfl ?_
      simp only [qz]
      refine rf_pick rfl rfl rfl ?_
      simp only [qz]
      refine rg_nil (ek_next (wk_cond_t rfl (wk_seq ?_)))
      refine wk_region [0, 0, 0, 0, 0, 0, 0] rfl Kx ?_
      simp only [qy]
      refine rg_move ?_
      simp only [qz]
      refine rf_add (r := 3) rfl rfl rfl rfl (by decide) ?_
      simp only [qz]
      refine rg_move ?_
      simp only [qz]
      refine rf_mul rfl rfl rfl rfl (wrap_ok Ox Ox) ?_
      simp only [qz]
      refine rf_sub rfl rfl rfl rfl (wrap_ok Ox Ox) ?_
      simp only [qz]
      refine rg_assign ?_
      simp only [qz]
      refine rg_assign ?_
      simp only [qz]
      refine rg_nil (ek_next (wk_ret (ek_block_ret (ek_then_ret (ek_then_ret (ek_block_ret (ek_then_ret ?_)))))))
      refine ek_ret (fun w hw => ⟨rfl, _, res_tt _ _ rfl, ?_⟩)
      (try simp only [qz])
      have hy := (ty1 (z := z) (by simpa using h4) (of_decide_eq_true he1)).2 h6
      exact ⟨by rw [hy.1, hy.2, h6]; rfl, hw.below⟩
    (try simp only [qd, ne_eq] at h5)
    simp only [qz]
    apply rg_soft_g
    case hg => rfl
    case hy => (intro w hw; go_simp; (try go_bits); exact Yld.mk _ _)
    simp only [qz]
    refine rg_skip Rx ?_
    simp only [qz]
    refine rg_skip Rx ?_
    simp only [qz]
    refine rf_pick rfl rfl rfl ?_
    simp only [qz]
    refine rf_pick rfl rfl rfl ?_
    simp only [qz]
    refine rg_nil (ek_next (wk_cond_t rfl (wk_seq ?_)))
    refine wk_region [0, 0, 0, 0, 0, 0, 0] rfl Kx ?_
    simp only [qy]
    refine rg_move ?_
    simp only [qz]
    refine rf_add (r := 3) rfl rfl rfl rfl (by decide) ?_
    simp only [qz]
    refine rg_move ?_
    simp only [qz]
    refine rf_mul rfl rfl rfl rfl (wrap_ok Ox Ox) ?_
    simp only [qz]
    refine rf_sub rfl rfl rfl rfl (wrap_ok Ox Ox) ?_
    simp only [qz]
    refine rg_assign ?_
    simp only [qz]
    refine rg_assign ?_
    simp only [qz]
    refine rg_nil (ek_next (wk_ret (ek_block_ret (ek_then_ret (ek_then_ret (ek_block_ret (ek_then_ret ?_)))))))
    refine ek_ret (fun w hw => ⟨rfl, _, res_tt _ _ rfl, ?_⟩)
    (try simp only [qz])
    have hy := (ty1 (z := z) (by simpa using h4) (of_decide_eq_true he1)).1 h5
    exact ⟨by rw [hy.1, hy.2, h5]; rfl, hw.below⟩
  rintro f2 s ⟨rfl, hm1⟩
  simp only [Act.putF, List.foldl_cons, List.foldl_nil, Act.put, Act.eval, q1, q2, q3, q4, q5, q6, q7, q8, q9, q10, q11, q12, q13, q14, q15, q16, q17, q18, Nat.reduceAdd, Bool.not_true, Bool.not_false]
  refine wk_region [0, 0] rfl Kx ?_
  simp only [qy]
  refine rf_add (r := 2) rfl rfl rfl rfl (by decide) ?_
  simp only [qz]
  refine rg_move ?_
  simp only [qz]
  refine rg_nil (ek_again (wk_seq ?_))
  refine wk_region [0] rfl Kx ?_
  simp only [qy]
  refine rf_lss (b := true) rfl rfl rfl rfl (by decide) ?_
  simp only [qz]
  refine rg_nil (ek_next (wk_seq (wk_cond_t rfl (wk_skip (ek_next ?_)))))
  refine wk_cutF [2, 3, 4, 5, 6, 11, 12, 13, 14, 15, 16, 17, 18, 19, 20, 21, 22, 23, 24, 25, 26, 27, 28, 29, 30, 31, 32, 33, 34, 35, 36, 37] (fun f s => s = ((g1, .cells #[.int .i64 z.a, .int .i64 z.b, .int .i64 z.c, .int .i64 z.d, .int .i64 z.k] 29) :: []) ∧ (turnIx z ≠ some 2 ∧ turnIx z ≠ some 6)) ?_ ?_
  · refine wk_block (wk_seq ?_)
    refine wk_region [0, 0, 0, 0] rfl Kx ?_
    simp only [qy]
    refine rg_move ?_
    simp only [qz]
    refine rf_idx1 (n := 2) (v := .int .i64 z.c) rfl rfl rfl rfl Try.underlying27 Try.underlying3 rfl Kx (by decide) rfl ?_
    simp only [qz]
    refine rg_assign ?_
    simp only [qz]
    refine rg_assign ?_
    simp only [qz]
    refine rg_nil (ek_next (wk_seq ?_))
    refine wk_region [1] rfl Kx ?_
    simp only [qy]
    refine Rgn fun g4 => ?_
    simp only [qz]
    refine rg_nil (ek_next (wk_seq ?_))
    refine wk_region [0, 0, 0, 1] rfl Kx ?_
    simp only [qy]
    refine rg_move ?_
    simp only [qz]
    refine rg_move ?_
    simp only [qz]
    refine rf_indexA (n := 2) (sz := 1) (j := 2) rfl rfl rfl rfl Try.underlying27 Kx (by decide) rfl ?_
    simp only [qz]
    refine rf_store rfl rfl Kx rfl rfl (UpdR.here _ _ _ Nl) Nz ?_
    simp only [qz]
    refine rg_nil (ek_next (wk_seq ?_))
    refine wk_region [0, 0, 0, 0, 0, 0, 0, 0, 0, 0, 0, 0, 0, 0, 0, 0, 0] rfl Kx ?_
    simp only [qy]
    refine rf_field (n := 0) (j := 4) rfl rfl rfl Try.underlying29 rfl Kx rfl ?_
    simp only [qz]
    refine rf_load rfl rfl rfl Try.underlying3 rfl (fun w hw => (Kn.hd0 (Kn.tl hw)).at rfl) ?_
    simp only [qz]
    refine rfb_eql rfl rfl rfl rfl ?_
    intro x h7
    cases x
    · (try simp only [qd, ne_eq] at h7)
      simp only [qz]
      refine rg_move ?_
      simp only [qz]
      refine rg_skip Rx ?_
      simp only [qz]
      refine rg_skip Rx ?_
      simp only [qz]
      refine rg_skip Rx ?_
      simp only [qz]
      refine rg_skip Rx ?_
      simp only [qz]
      refine rf_pick rfl rfl rfl ?_
      simp only [qz]
      refine rg_move ?_
      simp only [qz]
      refine rg_skip Rx ?_
      simp only [qz]
      refine rg_skip Rx ?_
      simp only [qz]
      refine rg_skip Rx ?_
      simp only [qz]
      refine rg_skip Rx ?_
      simp only [qz]
      refine rg_skip Rx ?_
      simp only [qz]
      refine rg_skip Rx ?_
      simp only [qz]
      refine rf_pick rfl rfl rfl ?_
      simp only [qz]
      refine rg_nil (ek_next (wk_cond_f rfl (wk_skip (ek_block ?_))))
      have hne := tn2 (z := z) (fun ⟨hh1, hh2, hh3⟩ => by omega)
      refine ek_sub (sk _ (sc _ sn)) ?_
      refine ek_midF Kx ?_
      exact ⟨by rfl, hne⟩
    (try simp only [qd, ne_eq] at h7)
    simp only [qz]
    refine rg_move ?_
    simp only [qz]
    refine rf_field (n := 3) (j := 0) rfl rfl rfl Try.underlying29 rfl Kx rfl ?_
    simp only [qz]
    refine rf_loadR (n := 4) rfl rfl rfl Try.underlying27 rfl Kx (fun w hw => Kn.hd0 (Kn.tl hw)) rfl rfl ?_
    simp only [qz]
    refine rf_loadR (n := 4) rfl rfl rfl Try.underlying27 rfl Kx (fun w hw => Kn.hd0 hw) rfl rfl ?_
    simp only [qz]
    refine rf_eqA4 rfl rfl rfl rfl ?_
    rcases he2 : decide (z.a = 0 ∧ z.b = 0 ∧ z.c = z.c ∧ z.d = 0) with _ | _
    · simp only [Act.put, Act.eval, qn, qv, Nat.reduceAdd]
      refine rf_pick rfl rfl rfl ?_
      simp only [qz]
      refine rg_move ?_
      simp only [qz]
      refine rg_skip Rx ?_
      simp only [qz]
      refine rg_skip Rx ?_
      simp only [qz]
      refine rg_skip Rx ?_
      simp only [qz]
      refine rg_skip Rx ?_
      simp only [qz]
      refine rg_skip Rx ?_
      simp only [qz]
      refine rg_skip Rx ?_
      simp only [qz]
      refine rf_pick rfl rfl rfl ?_
      simp only [qz]
      refine rg_nil (ek_next (wk_cond_f rfl (wk_skip (ek_block ?_))))
      have hne := tn2 (z := z) (fun ⟨hh1, hh2, hh3⟩ => by exact absurd hh2 (of_decide_eq_false he2))
      refine ek_sub (sk _ (sc _ sn)) ?_
      refine ek_midF Kx ?_
      exact ⟨by rfl, hne⟩
    simp only [Act.put, Act.eval, qn, qv, Nat.reduceAdd]
    refine rf_pick rfl rfl rfl ?_
    simp only [qz]
    refine rg_move ?_
    simp only [qz]
    apply rg_soft_g
    case hg => rfl
    case hy => (intro w hw; go_simp; (try go_bits); exact Yld.mk _ _)
    simp only [qz]
    refine rfb_eql rfl rfl rfl rfl ?_
    intro x h8
    cases x
    · (try simp only [qd, ne_eq] at h8)
      simp only [qz]
      apply rg_soft_g
      case hg => rfl
      case hy => (intro w hw; go_simp; (try go_bits); exact Yld.mk _ _)
      simp only [qz]
      apply rg_soft_g
      case hg => rfl
      case hy => (intro w hw; go_simp; (try go_bits); exact Yld.mk _ _)
      simp only [qz]
      refine rfb_eql rfl rfl rfl rfl ?_
      intro x h9
      cases x
      · (try simp only [qd, ne_eq] at h9)
        simp only [qz]
        refine rf_pick rfl rfl rfl ?_
        simp only [qz]
        refine rf_pick rfl rfl rfl ?_
        simp only [qz]
        refine rg_nil (ek_next (wk_cond_f rfl (wk_skip (ek_block ?_))))
        have hne := tn2 (z := z) (fun ⟨hh1, hh2, hh3⟩ => by omega)
        refine ek_sub (sk _ (sc _ sn)) ?_
        refine ek_midF Kx ?_
        exact ⟨by rfl, hne⟩
      (try simp only [qd, ne_eq] at h9)
      simp only [qz]
      refine rf_pick rfl rfl rfl ?_
      simp only [qz]
      refine rf_pick rfl rfl rfl ?_
      simp only [qz]
      refine rg_nil (ek_next (wk_cond_t rfl (wk_seq ?_)))
      refine wk_region [0, 0, 0, 0, 0, 0, 0] rfl Kx ?_
      simp only [qy]
      refine rg_move ?_
      simp only [qz]
      refine rf_add (r := 4) rfl rfl rfl rfl (by decide) ?_
      simp only [qz]
      refine rg_move ?_
      simp only [qz]
      refine rf_mul rfl rfl rfl rfl (wrap_ok Ox Ox) ?_
      simp only [qz]
      refine rf_sub rfl rfl rfl rfl (wrap_ok Ox Ox) ?_
      simp only [qz]
      refine rg_assign ?_
      simp only [qz]
      refine rg_assign ?_
      simp only [qz]
      refine rg_nil (ek_next (wk_ret (ek_block_ret (ek_then_ret (ek_then_ret (ek_block_ret (ek_then_ret ?_)))))))
      refine ek_ret (fun w hw => ⟨rfl, _, res_tt _ _ rfl, ?_⟩)
      (try simp only [qz])
      have hy := (ty2 (z := z) (by simpa using h7) (of_decide_eq_true he2)).2 h9
      exact ⟨by rw [hy.1, hy.2, h9]; rfl, hw.below⟩
    (try simp only [qd, ne_eq] at h8)
    simp only [qz]
    apply rg_soft_g
    case hg => rfl
    case hy => (intro w hw; go_simp; (try go_bits); exact Yld.mk _ _)
    simp only [qz]
    refine rg_skip Rx ?_
    simp only [qz]
    refine rg_skip Rx ?_
    simp only [qz]
    refine rf_pick rfl rfl rfl ?_
    simp only [qz]
    refine rf_pick rfl rfl rfl ?_
    simp only [qz]
    refine rg_nil (ek_next (wk_cond_t rfl (wk_seq ?_)))
    refine wk_region [0, 0, 0, 0, 0, 0, 0] rfl Kx ?_
    simp only [qy]
    refine rg_move ?_
    simp only [qz]
    refine rf_add (r := 4) rfl rfl rfl rfl (by decide) ?_
    simp only [qz]
    refine rg_move ?_
    simp only [qz]
    refine rf_mul rfl rfl rfl rfl (wrap_ok Ox Ox) ?_
    simp only [qz]
    refine rf_sub rfl rfl rfl rfl (wrap_ok Ox Ox) ?_
    simp only [qz]
    refine rg_assign ?_
    simp only [qz]
    refine rg_assign ?_
    simp only [qz]
    refine rg_nil (ek_next (wk_ret (ek_block_ret (ek_then_ret (ek_then_ret (ek_block_ret (ek_then_ret ?_)))))))
    refine ek_ret (fun w hw => ⟨rfl, _, res_tt _ _ rfl, ?_⟩)
    (try simp only [qz])
    have hy := (ty2 (z := z) (by simpa using h7) (of_decide_eq_true he2)).1 h8
    exact ⟨by rw [hy.1, hy.2, h8]; rfl, hw.below⟩
  rintro f3 s ⟨rfl, hm2⟩
  simp only [Act.putF, List.foldl_cons, List.foldl_nil, Act.put, Act.eval, q1, q2, q3, q4, q5, q6, q7, q8, q9, q10, q11, q12, q13, q14, q15, q16, q17, q18, Nat.reduceAdd, Bool.not_true, Bool.not_false]
  refine wk_region [0, 0] rfl Kx ?_
  simp only [qy]
  refine rf_add (r := 3) rfl rfl rfl rfl (by decide) ?_
  simp only [qz]
  refine rg_move ?_
  simp only [qz]
  refine rg_nil (ek_again (wk_seq ?_))
  refine wk_region [0] rfl Kx ?_
  simp only [qy]
  refine rf_lss (b := true) rfl rfl rfl rfl (by decide) ?_
  simp only [qz]
  refine rg_nil (ek_next (wk_seq (wk_cond_t rfl (wk_skip (ek_next ?_)))))
  refine wk_cutF [2, 3, 4, 5, 6, 11, 12, 13, 14, 15, 16, 17, 18, 19, 20, 21, 22, 23, 24, 25, 26, 27, 28, 29, 30, 31, 32, 33, 34, 35, 36, 37] (fun f s => s = ((g1, .cells #[.int .i64 z.a, .int .i64 z.b, .int .i64 z.c, .int .i64 z.d, .int .i64 z.k] 29) :: []) ∧ (turnIx z ≠ some 3 ∧ turnIx z ≠ some 7)) ?_ ?_
  · refine wk_block (wk_seq ?_)
    refine wk_region [0, 0, 0, 0] rfl Kx ?_
    simp only [qy]
    refine rg_move ?_
    simp only [qz]
    refine rf_idx1 (n := 3) (v := .int .i64 z.d) rfl rfl rfl rfl Try.underlying27 Try.underlying3 rfl Kx (by decide) rfl ?_
    simp only [qz]
    refine rg_assign ?_
    simp only [qz]
    refine rg_assign ?_
    simp only [qz]
    refine rg_nil (ek_next (wk_seq ?_))
    refine wk_region [1] rfl Kx ?_
    simp only [qy]
    refine Rgn fun g5 => ?_
    simp only [qz]
    refine rg_nil (ek_next (wk_seq ?_))
    refine wk_region [0, 0, 0, 1] rfl Kx ?_
    simp only [qy]
    refine rg_move ?_
    simp only [qz]
    refine rg_move ?_
    simp only [qz]
    refine rf_indexA (n := 3) (sz := 1) (j := 3) rfl rfl rfl rfl Try.underlying27 Kx (by decide) rfl ?_
    simp only [qz]
    refine rf_store rfl rfl Kx rfl rfl (UpdR.here _ _ _ Nl) Nz ?_
    simp only [qz]
    refine rg_nil (ek_next (wk_seq ?_))
    refine wk_region [0, 0, 0, 0, 0, 0, 0, 0, 0, 0, 0, 0, 0, 0, 0, 0, 0] rfl Kx ?_
    simp only [qy]
    refine rf_field (n := 0) (j := 4) rfl rfl rfl Try.underlying29 rfl Kx rfl ?_
    simp only [qz]
    refine rf_load rfl rfl rfl Try.underlying3 rfl (fun w hw => (Kn.hd0 (Kn.tl hw)).at rfl) ?_
    simp only [qz]
    refine rfb_eql rfl rfl rfl rfl ?_
    intro x h10
    cases x
    · (try simp only [qd, ne_eq] at h10)
      simp only [qz]
      refine rg_move ?_
      simp only [qz]
      refine rg_skip Rx ?_
      simp only [qz]
      refine rg_skip Rx ?_
      simp only [qz]
      refine rg_skip Rx ?_
      simp only [qz]
      refine rg_skip Rx ?_
      simp only [qz]
      refine rf_pick rfl rfl rfl ?_
      simp only [qz]
      refine rg_move ?_
      simp only [qz]
      refine rg_skip Rx ?_
      simp only [qz]
      refine rg_skip Rx ?_
      simp only [qz]
      refine rg_skip Rx ?_
      simp only [qz]
      refine rg_skip Rx ?_
      simp only [qz]
      refine rg_skip Rx ?_
      simp only [qz]
      refine rg_skip Rx ?_
      simp only [qz]
      refine rf_pick rfl rfl rfl ?_
      simp only [qz]
      refine rg_nil (ek_next (wk_cond_f rfl (wk_skip (ek_block ?_))))
      have hne := tn3 (z := z) (fun ⟨hh1, hh2, hh3⟩ => by omega)
      refine ek_sub (sk _ (sc _ sn)) ?_
      refine ek_midF Kx ?_
      exact ⟨by rfl, hne⟩
    (try simp only [qd, ne_eq] at h10)
    simp only [qz]
    refine rg_move ?_
    simp only [qz]
    refine rf_field (n := 3) (j := 0) rfl rfl rfl Try.underlying29 rfl Kx rfl ?_
    simp only [qz]
    refine rf_loadR (n := 4) rfl rfl rfl Try.underlying27 rfl Kx (fun w hw => Kn.hd0 (Kn.tl hw)) rfl rfl ?_
    simp only [qz]
    refine rf_loadR (n := 4) rfl rfl rfl Try.underlying27 rfl Kx (fun w hw => Kn.hd0 hw) rfl rfl ?_
    simp only [qz]
    refine rf_eqA4 rfl rfl rfl rfl ?_
    rcases he3 : decide (z.a = 0 ∧ z.b = 0 ∧ z.c = 0 ∧ z.d = z.d) with _ | _
    · simp only [Act.put, Act.eval, qn, qv, Nat.reduceAdd]
      refine rf_pick rfl rfl rfl ?_
      simp only [qz]
      refine rg_move ?_
      simp only [qz]
      refine rg_skip Rx ?_
      simp only [qz]
      refine rg_skip Rx ?_
      simp only [qz]
      refine rg_skip Rx ?_
      simp only [qz]
      refine rg_skip Rx ?_
      simp only [qz]
      refine rg_skip Rx ?_
      simp only [qz]
      refine rg_skip Rx ?_
      simp only [qz]
      refine rf_pick rfl rfl rfl ?_
      simp only [qz]
      refine rg_nil (ek_next (wk_cond_f rfl (wk_skip (ek_block ?_))))
      have hne := tn3 (z := z) (fun ⟨hh1, hh2, hh3⟩ => by exact absurd hh2 (of_decide_eq_false he3))
      refine ek_sub (sk _ (sc _ sn)) ?_
      refine ek_midF Kx ?_
      exact ⟨by rfl, hne⟩
    simp only [Act.put, Act.eval, qn, qv, Nat.reduceAdd]
    refine rf_pick rfl rfl rfl ?_
    simp only [qz]
    refine rg_move ?_
    simp only [qz]
    apply rg_soft_g
    case hg => rfl
    case hy => (intro w hw; go_simp; (try go_bits); exact Yld.mk _ _)
    simp only [qz]
    refine rfb_eql rfl rfl rfl rfl ?_
    intro x h11
    cases x
    · (try simp only [qd, ne_eq] at h11)
      simp only [qz]
      apply rg_soft_g
      case hg => rfl
      case hy => (intro w hw; go_simp; (try go_bits); exact Yld.mk _ _)
      simp only [qz]
      apply rg_soft_g
      case hg => rfl
      case hy => (intro w hw; go_simp; (try go_bits); exact Yld.mk _ _)
      simp only [qz]
      refine rfb_eql rfl rfl rfl rfl ?_
      intro x h12
      cases x
      · (try simp only [qd, ne_eq] at h12)
        simp only [qz]
        refine rf_pick rfl rfl rfl ?_
        simp only [qz]
        refine rf_pick rfl rfl rfl ?_
        simp only [qz]
        refine rg_nil (ek_next (wk_cond_f rfl (wk_skip (ek_block ?_))))
        have hne := tn3 (z := z) (fun ⟨hh1, hh2, hh3⟩ => by omega)
        refine ek_sub (sk _ (sc _ sn)) ?_
        refine ek_midF Kx ?_
        exact ⟨by rfl, hne⟩
      (try simp only [qd, ne_eq] at h12)
      simp only [qz]
      refine rf_pick rfl rfl rfl ?_
      simp only [qz]
      refine rf_pick rfl rfl rfl ?_
      simp only [qz]
      refine rg_nil (ek_next (wk_cond_t rfl (wk_seq ?_)))
      refine wk_region [0, 0, 0, 0, 0, 0, 0] rfl Kx ?_
      simp only [qy]
      refine rg_move ?_
      simp only [qz]
      refine rf_add (r := 5) rfl rfl rfl rfl (by decide) ?_
      simp only [qz]
      refine rg_move ?_
      simp only [qz]
      refine rf_mul rfl rfl rfl rfl (wrap_ok Ox Ox) ?_
      simp only [qz]
      refine rf_sub rfl rfl rfl rfl (wrap_ok Ox Ox) ?_
      simp only [qz]
      refine rg_assign ?_
      simp only [qz]
      refine rg_assign ?_
      simp only [qz]
      refine rg_nil (ek_next (wk_ret (ek_block_ret (ek_then_ret (ek_then_ret (ek_block_ret (ek_then_ret ?_)))))))
      refine ek_ret (fun w hw => ⟨rfl, _, res_tt _ _ rfl, ?_⟩)
      (try simp only [qz])
      have hy := (ty3 (z := z) (by simpa using h10) (of_decide_eq_true he3)).2 h12
      exact ⟨by rw [hy.1, hy.2, h12]; rfl, hw.below⟩
    (try simp only [qd, ne_eq] at h11)
    simp only [qz]
    apply rg_soft_g
    case hg => rfl
    case hy => (intro w hw; go_simp; (try go_bits); exact Yld.mk _ _)
    simp only [qz]
    refine rg_skip Rx ?_
    simp only [qz]
    refine rg_skip Rx ?_
    simp only [qz]
    refine rf_pick rfl rfl rfl ?_
    simp only [qz]
    refine rf_pick rfl rfl rfl ?_
    simp only [qz]
    refine rg_nil (ek_next (wk_cond_t rfl (wk_seq ?_)))
    refine wk_region [0, 0, 0, 0, 0, 0, 0] rfl Kx ?_
    simp only [qy]
    refine rg_move ?_
    simp only [qz]
    refine rf_add (r := 5) rfl rfl rfl rfl (by decide) ?_
    simp only [qz]
    refine rg_move ?_
    simp only [qz]
    refine rf_mul rfl rfl rfl rfl (wrap_ok Ox Ox) ?_
    simp only [qz]
    refine rf_sub rfl rfl rfl rfl (wrap_ok Ox Ox) ?_
    simp only [qz]
    refine rg_assign ?_
    simp only [qz]
    refine rg_assign ?_
    simp only [qz]
    refine rg_nil (ek_next (wk_ret (ek_block_ret (ek_then_ret (ek_then_ret (ek_block_ret (ek_then_ret ?_)))))))
    refine ek_ret (fun w hw => ⟨rfl, _, res_tt _ _ rfl, ?_⟩)
    (try simp only [qz])
    have hy := (ty3 (z := z) (by simpa using h10) (of_decide_eq_true he3)).1 h11
    exact ⟨by rw [hy.1, hy.2, h11]; rfl, hw.below⟩
  rintro f4 s ⟨rfl, hm3⟩
  simp only [Act.putF, List.foldl_cons, List.foldl_nil, Act.put, Act.eval, q1, q2, q3, q4, q5, q6, q7, q8, q9, q10, q11, q12, q13, q14, q15, q16, q17, q18, Nat.reduceAdd, Bool.not_true, Bool.not_false]
  refine wk_region [0, 0] rfl Kx ?_
  simp only [qy]
  refine rf_add (r := 4) rfl rfl rfl rfl (by decide) ?_
  simp only [qz]
  refine rg_move ?_
  simp only [qz]
  refine rg_nil (ek_again (wk_seq ?_))
  refine wk_region [0] rfl Kx ?_
  simp only [qy]
  refine rf_lss (b := false) rfl rfl rfl rfl (by decide) ?_
  simp only [qz]
  refine rg_nil (ek_next (wk_seq (wk_cond_f rfl (wk_exit (ek_then_exit (ek_then_exit (ek_block_exit (ek_next (wk_seq ?_)))))))))
  refine wk_region [0, 0] rfl Kx ?_
  simp only [qy]
  refine rg_assign ?_
  simp only [qz]
  refine rg_assign ?_
  simp only [qz]
  refine rg_nil (ek_next (wk_ret ?_))
  refine ek_ret (fun w hw => ⟨rfl, _, res_tt _ _ rfl, ?_⟩)
  (try simp only [qz])
  have hz := tn_all hm0 hm1 hm2 hm3
  exact ⟨by rw [hz.1, hz.2], hw.below⟩

end Go.Proofs.Ytjeijnjaleldkaa
namespace Go.Proofs.Ytjeijnjaleldkaa
set_option linter.all false

/-- a + b w + c w^2 + d w^3. -/
structure Q4 where
  a : Rat
  b : Rat
  c : Rat
  d : Rat
namespace Q4
theorem ext' {x y : Q4} (h1 : x.a = y.a) (h2 : x.b = y.b) (h3 : x.c = y.c) (h4 : x.d = y.d) : x = y := by cases x; cases y; simp_all
def zero : Q4 := ⟨0, 0, 0, 0⟩
def one : Q4 := ⟨1, 0, 0, 0⟩
def add (x y : Q4) : Q4 := ⟨x.a + y.a, x.b + y.b, x.c + y.c, x.d + y.d⟩
def neg (x : Q4) : Q4 := ⟨-x.a, -x.b, -x.c, -x.d⟩
def mul (x y : Q4) : Q4 := ⟨x.a * y.a - x.b * y.d - x.c * y.c - x.d * y.b, x.a * y.b + x.b * y.a - x.c * y.d - x.d * y.c, x.a * y.c + x.b * y.b + x.c * y.a - x.d * y.d, x.a * y.d + x.b * y.c + x.c * y.b + x.d * y.a⟩
def conj (x : Q4) : Q4 := ⟨x.a, -x.d, -x.c, -x.b⟩
instance : Zero Q4 := ⟨zero⟩
instance : One Q4 := ⟨one⟩
instance : Add Q4 := ⟨add⟩
instance : Mul Q4 := ⟨mul⟩
instance : Neg Q4 := ⟨neg⟩
instance : Sub Q4 := ⟨fun x y => add x (neg y)⟩
theorem za : (0 : Q4).a = 0 := rfl
theorem zb : (0 : Q4).b = 0 := rfl
theorem zc : (0 : Q4).c = 0 := rfl
theorem zd : (0 : Q4).d = 0 := rfl
theorem oa : (1 : Q4).a = 1 := rfl
theorem ob : (1 : Q4).b = 0 := rfl
theorem oc : (1 : Q4).c = 0 := rfl
theorem od : (1 : Q4).d = 0 := rfl
variable (x y z : Q4)
theorem aa : (x + y).a = x.a + y.a := rfl
theorem ab : (x + y).b = x.b + y.b := rfl
theorem ac : (x + y).c = x.c + y.c := rfl
theorem ad : (x + y).d = x.d + y.d := rfl
theorem na : (-x).a = -x.a := rfl
theorem nb : (-x).b = -x.b := rfl
theorem nc : (-x).c = -x.c := rfl
theorem nd : (-x).d = -x.d := rfl
theorem sa : (x - y).a = x.a + -y.a := rfl
theorem sb : (x - y).b = x.b + -y.b := rfl
theorem sc : (x - y).c = x.c + -y.c := rfl
theorem sd : (x - y).d = x.d + -y.d := rfl
theorem ma : (x * y).a = x.a * y.a - x.b * y.d - x.c * y.c - x.d * y.b := rfl
theorem mb : (x * y).b = x.a * y.b + x.b * y.a - x.c * y.d - x.d * y.c := rfl
theorem mc : (x * y).c = x.a * y.c + x.b * y.b + x.c * y.a - x.d * y.d := rfl
theorem md : (x * y).d = x.a * y.d + x.b * y.c + x.c * y.b + x.d * y.a := rfl
theorem ca : (conj x).a = x.a := rfl
theorem cb : (conj x).b = -x.d := rfl
theorem cc : (conj x).c = -x.c := rfl
theorem cd : (conj x).d = -x.b := rfl
theorem add_comm : x + y = y + x := by apply ext' <;> simp only [aa, ab, ac, ad] <;> grind
theorem add_assoc : x + y + z = x + (y + z) := by apply ext' <;> simp only [aa, ab, ac, ad] <;> grind
theorem add_zero : x + 0 = x := by apply ext' <;> simp only [aa, ab, ac, ad, za, zb, zc, zd] <;> grind
theorem zero_add : 0 + x = x := by rw [add_comm, add_zero]
theorem add_neg : x + -x = 0 := by apply ext' <;> simp only [aa, ab, ac, ad, na, nb, nc, nd, za, zb, zc, zd] <;> grind
theorem sub_def : x - y = x + -y := rfl
theorem mul_comm : x * y = y * x := by apply ext' <;> simp only [ma, mb, mc, md] <;> grind
theorem mul_assoc : x * y * z = x * (y * z) := by apply ext' <;> simp only [ma, mb, mc, md] <;> grind
theorem mul_one : x * 1 = x := by apply ext' <;> simp only [ma, mb, mc, md, oa, ob, oc, od] <;> grind
theorem one_mul : 1 * x = x := by rw [mul_comm, mul_one]
theorem mul_zero : x * 0 = 0 := by apply ext' <;> simp only [ma, mb, mc, md, za, zb, zc, zd] <;> grind
theorem zero_mul : 0 * x = 0 := by rw [mul_comm, mul_zero]
theorem mul_add : x * (y + z) = x * y + x * z := by apply ext' <;> simp only [ma, mb, mc, md, aa, ab, ac, ad] <;> grind
theorem add_mul : (x + y) * z = x * z + y * z := by rw [mul_comm, mul_add, mul_comm z x, mul_comm z y]
theorem mul_neg : x * -y = -(x * y) := by apply ext' <;> simp only [ma, mb, mc, md, na, nb, nc, nd] <;> grind
theorem neg_mul : -x * y = -(x * y) := by rw [mul_comm, mul_neg, mul_comm]
theorem neg_add : -(x + y) = -x + -y := by apply ext' <;> simp only [aa, ab, ac, ad, na, nb, nc, nd] <;> grind
theorem neg_zero : -(0 : Q4) = 0 := by apply ext' <;> rfl
theorem conj_add : conj (x + y) = conj x + conj y := by apply ext' <;> simp only [aa, ab, ac, ad, ca, cb, cc, cd] <;> grind
theorem conj_mul : conj (x * y) = conj x * conj y := by apply ext' <;> simp only [ma, mb, mc, md, ca, cb, cc, cd] <;> grind
theorem conj_neg : conj (-x) = -conj x := by apply ext' <;> simp only [na, nb, nc, nd, ca, cb, cc, cd]
theorem conj_conj : conj (conj x) = x := by apply ext' <;> simp only [ca, cb, cc, cd] <;> grind
theorem conj_zero : conj 0 = 0 := by apply ext' <;> rfl
theorem conj_one : conj 1 = 1 := by apply ext' <;> rfl
theorem sub_zero_eq {x y : Q4} (h : x - y = 0) : x = y := by
  have e : x - y + y = x := by apply ext' <;> simp only [aa, ab, ac, ad, sa, sb, sc, sd] <;> grind
  rw [← e, h, zero_add]
theorem sub_self : x - x = 0 := add_neg x
theorem norm_a : (x * conj x).a = x.a * x.a + x.b * x.b + x.c * x.c + x.d * x.d := by simp only [ma, ca, cb, cc, cd]; grind
theorem sq0 (r : Rat) : 0 ≤ r * r := by
  rcases Rat.le_total (a:=0) (b:=r) with h | h
  · exact Rat.mul_nonneg h h
  · have := Rat.mul_nonneg (a := -r) (b := -r) (by grind) (by grind)
    grind
theorem norm_nonneg : 0 ≤ (x * conj x).a := by
  rw [norm_a]
  have := sq0 x.a; have := sq0 x.b; have := sq0 x.c; have := sq0 x.d
  grind
theorem norm_zero {x : Q4} (h : (x * conj x).a = 0) : x = 0 := by
  rw [norm_a] at h
  have h1 := sq0 x.a; have h2 := sq0 x.b; have h3 := sq0 x.c; have h4 := sq0 x.d
  have z : ∀ r : Rat, r * r = 0 → r = 0 := fun r h => by grind
  exact ext' (z _ (by grind)) (z _ (by grind)) (z _ (by grind)) (z _ (by grind))

/-- Divided by r. -/
def dh (x : Q4) : Q4 := ⟨(x.b - x.d) / 2, (x.a + x.c) / 2, (x.b + x.d) / 2, (x.c - x.a) / 2⟩
def dn : Nat → Q4 → Q4
  | 0, x => x
  | n + 1, x => dn n (dh x)
theorem dh_inj {x y : Q4} (h : dh x = dh y) : x = y := by
  have h1 : (dh x).a = (dh y).a := by rw [h]
  have h2 : (dh x).b = (dh y).b := by rw [h]
  have h3 : (dh x).c = (dh y).c := by rw [h]
  have h4 : (dh x).d = (dh y).d := by rw [h]
  simp only [dh] at h1 h2 h3 h4
  apply ext' <;> grind
theorem dn_inj : ∀ (n : Nat) {x y : Q4}, dn n x = dn n y → x = y
  | 0, _, _, h => h
  | n + 1, _, _, h => dh_inj (dn_inj n h)
theorem dh_add : dh (x + y) = dh x + dh y := by apply ext' <;> simp only [dh, aa, ab, ac, ad] <;> grind
theorem dn_add : ∀ (n : Nat) (x y : Q4), dn n (x + y) = dn n x + dn n y
  | 0, _, _ => rfl
  | n + 1, x, y => by simp only [dn]; rw [dh_add, dn_add n]
theorem dh_mul : dh (x * y) = dh x * y := by apply ext' <;> simp only [dh, ma, mb, mc, md] <;> grind
theorem dn_mul : ∀ (n : Nat) (x y : Q4), dn n (x * y) = dn n x * y
  | 0, _, _ => rfl
  | n + 1, x, y => by simp only [dn]; rw [dh_mul, dn_mul n]
theorem dn_dn : ∀ (m n : Nat) (x : Q4), dn m (dn n x) = dn (n + m) x
  | m, 0, x => by rw [Nat.zero_add]; rfl
  | m, n + 1, x => by
    rw [show n + 1 + m = (n + m) + 1 by omega]
    exact dn_dn m n (dh x)
theorem dn_mul2 (m n : Nat) (x y : Q4) : dn (m + n) (x * y) = dn m x * dn n y := by
  rw [← dn_dn, dn_mul, mul_comm, dn_mul, mul_comm]
theorem dh_conj : dh (conj x) = conj (dh x) := by apply ext' <;> simp only [dh, ca, cb, cc, cd] <;> grind
theorem dn_conj : ∀ (n : Nat) (x : Q4), dn n (conj x) = conj (dn n x)
  | 0, _ => rfl
  | n + 1, x => by simp only [dn]; rw [dh_conj, dn_conj n]
theorem dh_neg : dh (-x) = -dh x := by apply ext' <;> simp only [dh, na, nb, nc, nd] <;> grind
theorem dn_neg : ∀ (n : Nat) (x : Q4), dn n (-x) = -dn n x
  | 0, _ => rfl
  | n + 1, x => by simp only [dn]; rw [dh_neg, dn_neg n]
end Q4
def Nm.co (z : Nm) : Q4 := ⟨(z.a : Rat), (z.b : Rat), (z.c : Rat), (z.d : Rat)⟩
/-- The value of a number. -/
def Nm.val (z : Nm) : Q4 := Q4.dn z.k.toNat z.co
theorem co_tr (z : Nm) : Q4.dh z.tr.co = z.co := by
  apply Q4.ext' <;> simp only [Q4.dh, Nm.co, Nm.tr, Rat.intCast_add, Rat.intCast_sub] <;> grind
theorem val_tr {z : Nm} (h : 0 ≤ z.k) : z.tr.val = z.val := by
  unfold Nm.val
  have : z.tr.k.toNat = z.k.toNat + 1 := by simp only [Nm.tr]; omega
  rw [this]
  show Q4.dn z.k.toNat (Q4.dh z.tr.co) = _
  rw [co_tr]
theorem val_up : ∀ (n : Nat) {z : Nm}, 0 ≤ z.k → (Nm.up n z).val = z.val
  | 0, _, _ => rfl
  | n + 1, z, h => by
    have := val_up n (z := z.tr) (by simp only [Nm.tr]; omega)
    show (Nm.up n z.tr).val = _
    rw [this, val_tr h]
theorem val_eqv {x y : Nm} (hx : 0 ≤ x.k) (hy : 0 ≤ y.k) (h : Eqv x y) : x.val = y.val := by
  obtain ⟨i, j, h⟩ := h
  rw [← val_up i hx, h, val_up j hy]
theorem co_inj {x y : Nm} (hk : x.k = y.k) (h : x.co = y.co) : x = y := by
  have h1 : (x.a : Rat) = y.a := by show x.co.a = y.co.a; rw [h]
  have h2 : (x.b : Rat) = y.b := by show x.co.b = y.co.b; rw [h]
  have h3 : (x.c : Rat) = y.c := by show x.co.c = y.co.c; rw [h]
  have h4 : (x.d : Rat) = y.d := by show x.co.d = y.co.d; rw [h]
  obtain ⟨a, b, c, d, k⟩ := x
  obtain ⟨a', b', c', d', k'⟩ := y
  dsimp only at *
  rw [Rat.intCast_inj.1 h1, Rat.intCast_inj.1 h2, Rat.intCast_inj.1 h3, Rat.intCast_inj.1 h4, hk]
theorem eqv_val {x y : Nm} (hx : 0 ≤ x.k) (hy : 0 ≤ y.k) (h : x.val = y.val) : Eqv x y := by
  refine ⟨(y.k).toNat, (x.k).toNat, ?_⟩
  have hk : (Nm.up (y.k).toNat x).k = (Nm.up (x.k).toNat y).k := by rw [Nm.up_k, Nm.up_k]; omega
  refine co_inj hk ?_
  have h1 := val_up (y.k).toNat hx
  have h2 := val_up (x.k).toNat hy
  rw [h, ← h2] at h1
  unfold Nm.val at h1
  rw [hk] at h1
  exact Q4.dn_inj _ h1
theorem val_ok {x y : Nm} (hx : x.Ok) (hy : y.Ok) (h : x.val = y.val) : x = y := form_unique hx.nf hy.nf hx.k0 hy.k0 (eqv_val hx.k0 hy.k0 h)
theorem to_up {x : Nm} {m : Int} (h : 0 ≤ x.k) : (x.to m).val = x.val := val_up _ h
theorem val_addR {x y : Nm} (hx : 0 ≤ x.k) (hy : 0 ≤ y.k) : (x.addR y).val = x.val + y.val := by
  have h1 := to_up (x := x) (m := max x.k y.k) hx
  have h2 := to_up (x := y) (m := max x.k y.k) hy
  have k1 := Nm.to_k (z := x) (m := max x.k y.k) (by omega)
  have k2 := Nm.to_k (z := y) (m := max x.k y.k) (by omega)
  rw [← h1, ← h2]
  unfold Nm.val
  rw [k1, k2, ← Q4.dn_add]
  unfold Nm.addR
  dsimp only
  congr 1
  apply Q4.ext' <;> simp only [Nm.co, Q4.aa, Q4.ab, Q4.ac, Q4.ad, Rat.intCast_add]
theorem val_mulR {x y : Nm} (hx : 0 ≤ x.k) (hy : 0 ≤ y.k) : (x.mulR y).val = x.val * y.val := by
  unfold Nm.val
  have : (x.mulR y).k.toNat = x.k.toNat + y.k.toNat := by simp only [Nm.mulR]; omega
  rw [this, ← Q4.dn_mul2]
  congr 1
  apply Q4.ext' <;> simp only [Nm.co, Nm.mulR, Q4.ma, Q4.mb, Q4.mc, Q4.md, Rat.intCast_add, Rat.intCast_sub, Rat.intCast_mul]
theorem val_conj (x : Nm) : x.conj.val = Q4.conj x.val := by
  have e : x.conj.co = Q4.conj x.co := by apply Q4.ext' <;> simp only [Nm.co, Nm.conj, Q4.ca, Q4.cb, Q4.cc, Q4.cd, Rat.intCast_neg]
  unfold Nm.val
  rw [← Q4.dn_conj, e]
  rfl
theorem val_neg (x : Nm) : x.neg.val = -x.val := by
  have e : x.neg.co = -x.co := by apply Q4.ext' <;> simp only [Nm.co, Nm.neg, Q4.na, Q4.nb, Q4.nc, Q4.nd, Rat.intCast_neg]
  unfold Nm.val
  rw [← Q4.dn_neg, e]
  rfl
theorem val_zero : Nm.zero.val = 0 := rfl
theorem val_one : Nm.one.val = 1 := rfl

/-- A sum. -/
def sumQ : Nat → (Nat → Q4) → Q4
  | 0, _ => 0
  | n + 1, f => sumQ n f + f n
theorem sumQ_congr : ∀ {n : Nat} {f g : Nat → Q4}, (∀ i, i < n → f i = g i) → sumQ n f = sumQ n g
  | 0, _, _, _ => rfl
  | n + 1, f, g, h => by simp only [sumQ]; rw [sumQ_congr fun i hi => h i (by omega), h n (by omega)]
theorem sumQ_add (n : Nat) (f g : Nat → Q4) : sumQ n (fun i => f i + g i) = sumQ n f + sumQ n g := by
  induction n with
  | zero => exact (Q4.add_zero 0).symm
  | succ n ih => simp only [sumQ]; rw [ih, Q4.add_assoc, Q4.add_assoc, ← Q4.add_assoc (sumQ n g), Q4.add_comm (sumQ n g) (f n), Q4.add_assoc]
theorem sumQ_zero (n : Nat) : sumQ n (fun _ => 0) = 0 := by
  induction n with
  | zero => rfl
  | succ n ih => simp only [sumQ]; rw [ih, Q4.add_zero]
theorem sumQ_neg (n : Nat) (f : Nat → Q4) : sumQ n (fun i => -f i) = -sumQ n f := by
  induction n with
  | zero => exact Q4.neg_zero.symm
  | succ n ih => simp only [sumQ]; rw [ih, Q4.neg_add]
theorem sumQ_mul (n : Nat) (x : Q4) (f : Nat → Q4) : sumQ n (fun i => x * f i) = x * sumQ n f := by
  induction n with
  | zero => exact (Q4.mul_zero x).symm
  | succ n ih => simp only [sumQ]; rw [ih, Q4.mul_add]
theorem sumQ_mulr (n : Nat) (x : Q4) (f : Nat → Q4) : sumQ n (fun i => f i * x) = sumQ n f * x := by
  rw [Q4.mul_comm, ← sumQ_mul]
  exact sumQ_congr fun i _ => Q4.mul_comm _ _
theorem sumQ_conj (n : Nat) (f : Nat → Q4) : Q4.conj (sumQ n f) = sumQ n fun i => Q4.conj (f i) := by
  induction n with
  | zero => exact Q4.conj_zero
  | succ n ih => simp only [sumQ]; rw [Q4.conj_add, ih]
theorem sumQ_swap (m n : Nat) (f : Nat → Nat → Q4) : sumQ m (fun i => sumQ n (fun j => f i j)) = sumQ n (fun j => sumQ m (fun i => f i j)) := by
  induction m with
  | zero => exact (sumQ_zero n).symm
  | succ m ih => simp only [sumQ]; rw [ih, ← sumQ_add]
def dl (i j : Nat) : Q4 := if i = j then 1 else 0
theorem sumQ_dl {n j : Nat} (f : Nat → Q4) (h : j < n) : sumQ n (fun i => dl j i * f i) = f j := by
  induction n with
  | zero => omega
  | succ n ih =>
    simp only [sumQ]
    by_cases e : j = n
    · subst e
      have : sumQ j (fun i => dl j i * f i) = sumQ j (fun _ => 0) := sumQ_congr fun i hi => by unfold dl; rw [if_neg (by omega), Q4.zero_mul]
      rw [this, sumQ_zero, Q4.zero_add]
      unfold dl
      rw [if_pos rfl, Q4.one_mul]
    · rw [ih (by omega)]
      unfold dl
      rw [if_neg e, Q4.zero_mul, Q4.add_zero]
theorem dl_comm (i j : Nat) : dl i j = dl j i := by unfold dl; split <;> split <;> simp_all
theorem dl_conj (i j : Nat) : Q4.conj (dl i j) = dl i j := by unfold dl; split; exact Q4.conj_one; exact Q4.conj_zero
theorem sumQ_dlr {n j : Nat} (f : Nat → Q4) (h : j < n) : sumQ n (fun i => f i * dl i j) = f j := by
  rw [← sumQ_dl f h]
  exact sumQ_congr fun i _ => by rw [Q4.mul_comm, dl_comm]
theorem sumQ_a_nonneg : ∀ {n : Nat} {f : Nat → Q4}, (∀ i, i < n → 0 ≤ (f i).a) → 0 ≤ (sumQ n f).a
  | 0, _, _ => by show (0 : Rat) ≤ 0; grind
  | n + 1, f, h => by
    simp only [sumQ, Q4.aa]
    have := sumQ_a_nonneg (n := n) fun i hi => h i (by omega)
    have := h n (by omega)
    grind
theorem sumQ_a_zero : ∀ {n : Nat} {f : Nat → Q4}, (∀ i, i < n → 0 ≤ (f i).a) → (sumQ n f).a = 0 → ∀ i, i < n → (f i).a = 0
  | 0, _, _, _, i, hi => by omega
  | n + 1, f, h, h0, i, hi => by
    simp only [sumQ, Q4.aa] at h0
    have h1 := sumQ_a_nonneg (n := n) fun i hi => h i (by omega)
    have h2 := h n (by omega)
    by_cases e : i = n
    · subst e; grind
    · have h3 : (sumQ n f).a = 0 := by grind
      exact sumQ_a_zero (n := n) (fun i hi => h i (by omega)) h3 i (by omega)

/-- The rows are unit vectors that are orthogonal to each other. -/
def UnR (n : Nat) (m : Nat → Nat → Q4) : Prop := ∀ i j, i < n → j < n → sumQ n (fun k => m i k * Q4.conj (m j k)) = dl i j
def UnC (n : Nat) (m : Nat → Nat → Q4) : Prop := ∀ i j, i < n → j < n → sumQ n (fun k => Q4.conj (m k i) * m k j) = dl i j
theorem unC_of_unR {n : Nat} {m : Nat → Nat → Q4} (h : UnR n m) : UnC n m := by
  let p : Nat → Nat → Q4 := fun i j => sumQ n (fun k => Q4.conj (m k i) * m k j)
  have hpc : ∀ i j, Q4.conj (p i j) = p j i := fun i j => by
    show Q4.conj (sumQ n _) = sumQ n _
    rw [sumQ_conj]
    exact sumQ_congr fun k _ => by rw [Q4.conj_mul, Q4.conj_conj, Q4.mul_comm]
  have hpp : ∀ i j, i < n → j < n → sumQ n (fun k => p i k * p k j) = p i j := fun i j hi hj => by
    have e1 : sumQ n (fun k => p i k * p k j) = sumQ n fun k => sumQ n fun a => sumQ n fun b => (Q4.conj (m a i) * m a k) * (Q4.conj (m b k) * m b j) := sumQ_congr fun k _ => by
      show sumQ n _ * p k j = _
      rw [← sumQ_mulr]
      exact sumQ_congr fun a _ => by rw [← sumQ_mul]
    rw [e1, sumQ_swap]
    have e2 : ∀ a, a < n → sumQ n (fun k => sumQ n fun b => (Q4.conj (m a i) * m a k) * (Q4.conj (m b k) * m b j)) = Q4.conj (m a i) * m a j := fun a ha => by
      rw [sumQ_swap]
      have e3 : ∀ b, b < n → sumQ n (fun k => (Q4.conj (m a i) * m a k) * (Q4.conj (m b k) * m b j)) = dl a b * (Q4.conj (m a i) * m b j) := fun b hb => by
        rw [← h a b ha hb, ← sumQ_mulr]
        exact sumQ_congr fun k _ => by
          rw [Q4.mul_assoc, Q4.mul_comm (Q4.conj (m a i)), ← Q4.mul_assoc (m a k), Q4.mul_assoc (m a k * Q4.conj (m b k)), Q4.mul_comm (m b j)]
      rw [sumQ_congr e3, sumQ_dl (fun b => Q4.conj (m a i) * m b j) ha]
    rw [sumQ_congr e2]
  have htr : sumQ n (fun i => dl i i - p i i) = 0 := by
    have e1 : sumQ n (fun i => p i i) = sumQ n fun i => dl i i := by
      show sumQ n (fun i => sumQ n fun k => Q4.conj (m k i) * m k i) = _
      rw [sumQ_swap]
      exact sumQ_congr fun k hk => by
        rw [← h k k hk hk]
        exact sumQ_congr fun i _ => Q4.mul_comm _ _
    have e2 : sumQ n (fun i => dl i i - p i i) = sumQ n (fun i => dl i i) + -sumQ n (fun i => p i i) := by rw [← sumQ_neg, ← sumQ_add]; rfl
    rw [e2, e1, Q4.add_neg]
  have hx : ∀ i, i < n → sumQ n (fun j => (dl i j - p i j) * Q4.conj (dl i j - p i j)) = dl i i - p i i := fun i hi => by
    have e1 : ∀ j, j < n → (dl i j - p i j) * Q4.conj (dl i j - p i j) = (dl i j * dl j i + -(dl i j * p j i)) + (-(p i j * dl j i) + p i j * p j i) := fun j _ => by
      rw [Q4.sub_def, Q4.conj_add, Q4.conj_neg, hpc, dl_conj, dl_comm i j, Q4.mul_add, Q4.add_mul, Q4.add_mul, Q4.mul_neg, Q4.mul_neg, Q4.neg_mul, Q4.neg_mul, Q4.add_assoc, Q4.add_assoc]
      congr 1
      rw [← Q4.add_assoc, ← Q4.add_assoc, Q4.add_comm (-(p i j * dl j i))]
      congr 1
      apply Q4.ext' <;> simp only [Q4.na, Q4.nb, Q4.nc, Q4.nd] <;> grind
    rw [sumQ_congr e1, sumQ_add, sumQ_add, sumQ_add, sumQ_neg, sumQ_neg, sumQ_dl (fun j => dl j i) hi, sumQ_dl (fun j => p j i) hi, sumQ_dlr (fun j => p i j) hi, hpp i i hi hi, Q4.add_comm (-p i i) (p i i), Q4.add_neg, Q4.add_zero]
    rfl
  have hz : ∀ i, i < n → (dl i i - p i i).a = 0 := sumQ_a_zero (fun i hi => by rw [← hx i hi]; exact sumQ_a_nonneg fun j _ => Q4.norm_nonneg _) (by rw [htr]; rfl)
  intro i j hi hj
  have h1 : (sumQ n (fun j => (dl i j - p i j) * Q4.conj (dl i j - p i j))).a = 0 := by rw [hx i hi]; exact hz i hi
  have h2 := sumQ_a_zero (fun j _ => Q4.norm_nonneg _) h1 j hj
  exact (Q4.sub_zero_eq (Q4.norm_zero h2)).symm
theorem unR_of_unC {n : Nat} {m : Nat → Nat → Q4} (h : UnC n m) : UnR n m := by
  have h1 : UnR n (fun i k => Q4.conj (m k i)) := fun i j hi hj => by
    rw [← h i j hi hj]
    exact sumQ_congr fun k _ => by rw [Q4.conj_conj]
  have h2 := unC_of_unR h1
  intro i j hi hj
  rw [← h2 i j hi hj]
  exact sumQ_congr fun k _ => by rw [Q4.conj_conj]
theorem unR_iff {n : Nat} {m : Nat → Nat → Q4} : UnR n m ↔ UnC n m := ⟨unC_of_unR, unR_of_unC⟩
end Go.Proofs.Ytjeijnjaleldkaa
namespace Go.Proofs.Ytjeijnjaleldkaa
set_option linter.all false

section
variable {n : Nat}
theorem sum_sum_mul (f g : Nat → Q4) (m n : Nat) : sumQ m f * sumQ n g = sumQ m fun i => sumQ n fun j => f i * g j := by
  rw [← sumQ_mulr]
  exact sumQ_congr fun i _ => (sumQ_mul n (f i) g).symm
theorem mul4 (a b c d : Q4) : a * b * (c * d) = b * c * (a * d) := by
  rw [Q4.mul_comm a b, Q4.mul_assoc, Q4.mul_assoc, ← Q4.mul_assoc a c d, Q4.mul_comm a c, Q4.mul_assoc c a d]
/-- Columns of a unitary table: what a table makes of vectors keeps their products. -/
theorem un_keep {m : Nat → Nat → Q4} (h : UnC n m) (u v : Nat → Q4) :
    sumQ n (fun i => Q4.conj (sumQ n fun k => m i k * u k) * sumQ n fun l => m i l * v l) = sumQ n fun k => Q4.conj (u k) * v k := by
  have e1 : sumQ n (fun i => Q4.conj (sumQ n fun k => m i k * u k) * sumQ n fun l => m i l * v l) = sumQ n fun i => sumQ n fun k => sumQ n fun l => Q4.conj (m i k) * m i l * (Q4.conj (u k) * v l) := by
    refine sumQ_congr fun i _ => ?_
    rw [sumQ_conj, sum_sum_mul]
    refine sumQ_congr fun k _ => sumQ_congr fun l _ => ?_
    rw [Q4.conj_mul, Q4.mul_comm (Q4.conj (m i k)) (Q4.conj (u k)), mul4]
  rw [e1, sumQ_swap]
  refine sumQ_congr fun k hk => ?_
  rw [sumQ_swap]
  have e2 : sumQ n (fun l => sumQ n fun i => Q4.conj (m i k) * m i l * (Q4.conj (u k) * v l)) = sumQ n fun l => dl k l * (Q4.conj (u k) * v l) := by
    refine sumQ_congr fun l hl => ?_
    rw [sumQ_mulr, h k l hk hl]
  rw [e2]
  exact sumQ_dl (fun l => Q4.conj (u k) * v l) hk
theorem unC_mul {a b : Nat → Nat → Q4} (ha : UnC n a) (hb : UnC n b) : UnC n fun i k => sumQ n fun j => a i j * b j k := by
  intro k l hk hl
  rw [un_keep ha (fun j => b j k) (fun j => b j l)]
  exact hb k l hk hl
theorem unC_dag {a : Nat → Nat → Q4} (ha : UnC n a) : UnC n fun i k => Q4.conj (a k i) := by
  intro k l hk hl
  have h := unR_of_unC ha k l hk hl
  rw [← h]
  exact sumQ_congr fun i _ => by rw [Q4.conj_conj]
theorem unC_T {a : Nat → Nat → Q4} (ha : UnC n a) : UnC n fun i k => a k i := by
  intro k l hk hl
  have h := unR_of_unC ha l k hl hk
  rw [dl_comm, ← h]
  exact sumQ_congr fun i _ => Q4.mul_comm _ _
theorem sumQ_split (f : Nat → Q4) (m : Nat) : ∀ n, sumQ (m + n) f = sumQ m f + sumQ n fun k => f (m + k)
  | 0 => (Q4.add_zero _).symm
  | n + 1 => by
    show sumQ (m + n) f + f (m + n) = sumQ m f + (sumQ n (fun k => f (m + k)) + f (m + n))
    rw [sumQ_split f m n, Q4.add_assoc]
/-- Two tables in two corners. -/
def besQ (n : Nat) (a b : Nat → Nat → Q4) (i k : Nat) : Q4 := if i < n ∧ k < n then a i k else if n ≤ i ∧ n ≤ k then b (i - n) (k - n) else 0
theorem unC_bes {m : Nat} {a b : Nat → Nat → Q4} (ha : UnC n a) (hb : UnC m b) : UnC (n + m) (besQ n a b) := by
  intro k l hk hl
  rw [sumQ_split]
  have z1 : ∀ {i j : Nat}, i < n → n ≤ j → besQ n a b i j = 0 := fun hi hj => by unfold besQ; rw [if_neg (by omega), if_neg (by omega)]
  have z2 : ∀ {i j : Nat}, n ≤ i → j < n → besQ n a b i j = 0 := fun hi hj => by unfold besQ; rw [if_neg (by omega), if_neg (by omega)]
  have y1 : ∀ {i j : Nat}, i < n → j < n → besQ n a b i j = a i j := fun hi hj => by unfold besQ; rw [if_pos ⟨hi, hj⟩]
  have y2 : ∀ {i j : Nat}, besQ n a b (n + i) (n + j) = b i j := fun {i j} => by unfold besQ; rw [if_neg (by omega), if_pos (by omega), show n + i - n = i by omega, show n + j - n = j by omega]
  by_cases h1 : k < n
  · by_cases h2 : l < n
    · have e1 : sumQ n (fun i => Q4.conj (besQ n a b i k) * besQ n a b i l) = dl k l := by
        rw [← ha k l h1 h2]
        exact sumQ_congr fun i hi => by rw [y1 hi h1, y1 hi h2]
      have e2 : sumQ m (fun i => Q4.conj (besQ n a b (n + i) k) * besQ n a b (n + i) l) = 0 := by
        rw [← sumQ_zero m]
        exact sumQ_congr fun i hi => by rw [z2 (by omega) h1, Q4.conj_zero, Q4.zero_mul]
      rw [e1, e2, Q4.add_zero]
    have e1 : sumQ n (fun i => Q4.conj (besQ n a b i k) * besQ n a b i l) = 0 := by
      rw [← sumQ_zero n]
      exact sumQ_congr fun i hi => by rw [z1 hi (by omega : n ≤ l), Q4.mul_zero]
    have e2 : sumQ m (fun i => Q4.conj (besQ n a b (n + i) k) * besQ n a b (n + i) l) = 0 := by
      rw [← sumQ_zero m]
      exact sumQ_congr fun i hi => by rw [z2 (by omega) h1, Q4.conj_zero, Q4.zero_mul]
    rw [e1, e2, Q4.add_zero]
    unfold dl; rw [if_neg (by omega)]
  by_cases h2 : l < n
  · have e1 : sumQ n (fun i => Q4.conj (besQ n a b i k) * besQ n a b i l) = 0 := by
      rw [← sumQ_zero n]
      exact sumQ_congr fun i hi => by rw [z1 hi (by omega : n ≤ k), Q4.conj_zero, Q4.zero_mul]
    have e2 : sumQ m (fun i => Q4.conj (besQ n a b (n + i) k) * besQ n a b (n + i) l) = 0 := by
      rw [← sumQ_zero m]
      exact sumQ_congr fun i hi => by rw [z2 (by omega) h2, Q4.mul_zero]
    rw [e1, e2, Q4.add_zero]
    unfold dl; rw [if_neg (by omega)]
  obtain ⟨k', rfl⟩ : ∃ k', k = n + k' := ⟨k - n, by omega⟩
  obtain ⟨l', rfl⟩ : ∃ l', l = n + l' := ⟨l - n, by omega⟩
  have e1 : sumQ n (fun i => Q4.conj (besQ n a b i (n + k')) * besQ n a b i (n + l')) = 0 := by
    rw [← sumQ_zero n]
    exact sumQ_congr fun i hi => by rw [z1 hi (by omega), Q4.conj_zero, Q4.zero_mul]
  have e2 : sumQ m (fun i => Q4.conj (besQ n a b (n + i) (n + k')) * besQ n a b (n + i) (n + l')) = dl k' l' := by
    rw [← hb k' l' (by omega) (by omega)]
    exact sumQ_congr fun i hi => by rw [y2, y2]
  rw [e1, e2, Q4.zero_add]
  unfold dl
  by_cases h : k' = l'
  · rw [if_pos h, if_pos (by omega)]
  rw [if_neg h, if_neg (by omega)]
theorem mul_assocT (a b c : Nat → Nat → Q4) (i k : Nat) : sumQ n (fun j => (sumQ n fun l => a i l * b l j) * c j k) = sumQ n fun l => a i l * sumQ n fun j => b l j * c j k := by
  have e1 : sumQ n (fun j => (sumQ n fun l => a i l * b l j) * c j k) = sumQ n fun j => sumQ n fun l => a i l * (b l j * c j k) :=
    sumQ_congr fun j _ => by
      rw [← sumQ_mulr]
      exact sumQ_congr fun l _ => Q4.mul_assoc _ _ _
  rw [e1, sumQ_swap]
  exact sumQ_congr fun l _ => sumQ_mul n (a i l) _
theorem mul_dagT (a b : Nat → Nat → Q4) (i k : Nat) : sumQ n (fun j => Q4.conj (b j i) * Q4.conj (a k j)) = Q4.conj (sumQ n fun j => a k j * b j i) := by
  rw [sumQ_conj]
  exact sumQ_congr fun j _ => by rw [Q4.conj_mul, Q4.mul_comm]
/-- Light keeps its length. -/
theorem un_light {m : Nat → Nat → Q4} (h : UnC n m) (v : Nat → Q4) : sumQ n (fun i => (sumQ n fun k => m i k * v k) * Q4.conj (sumQ n fun k => m i k * v k)) = sumQ n fun k => v k * Q4.conj (v k) := by
  have e := un_keep h v v
  have e1 : sumQ n (fun i => (sumQ n fun k => m i k * v k) * Q4.conj (sumQ n fun k => m i k * v k)) = sumQ n fun i => Q4.conj (sumQ n fun k => m i k * v k) * sumQ n fun l => m i l * v l :=
    sumQ_congr fun i _ => Q4.mul_comm _ _
  rw [e1, e]
  exact sumQ_congr fun k _ => Q4.mul_comm _ _
end

/-! ### Numbers -/
/-- The sum of products, one after the other. -/
def prodsR (x y : Nat → Nm) : Nat → NR
  | 0 => .ok Nm.zero
  | k + 1 => match prodsR x y k with
    | .error c => .error c
    | .ok s => match (x k).mul (y k) with
      | .error c => .error c
      | .ok p => s.add p
theorem prodsR_err {x y : Nat → Nm} {k : Nat} {c : Int} (h : prodsR x y k = .error c) : ∀ m, k ≤ m → prodsR x y m = .error c := by
  intro m hm
  induction m with
  | zero => obtain rfl : k = 0 := by omega
            exact h
  | succ m ih =>
    rcases (by omega : k = m + 1 ∨ k ≤ m) with rfl | hm
    · exact h
    · simp only [prodsR, ih hm]
theorem prodsR_val {x y : Nat → Nm} (hx : ∀ k, (x k).Ok) (hy : ∀ k, (y k).Ok) : ∀ {n : Nat} {z : Nm}, prodsR x y n = .ok z → z.Ok ∧ z.val = sumQ n fun k => (x k).val * (y k).val
  | 0, z, h => by
    cases h
    exact ⟨zero_ok, val_zero⟩
  | n + 1, z, h => by
    simp only [prodsR] at h
    split at h
    · cases h
    · next s hs =>
      split at h
      · cases h
      · next p hp =>
        obtain ⟨so, sv⟩ := prodsR_val hx hy hs
        obtain ⟨po, -, pe⟩ := mk_ok (mulR_k (hx n).k0 (hy n).k0) hp
        obtain ⟨zo, -, ze⟩ := mk_ok (addR_k so.k0) h
        refine ⟨zo, ?_⟩
        show _ = sumQ n _ + _
        rw [val_eqv zo.k0 (addR_k so.k0) ze, val_addR so.k0 po.k0, sv, val_eqv po.k0 (mulR_k (hx n).k0 (hy n).k0) pe, val_mulR (hx n).k0 (hy n).k0]
theorem prodsR_code {x y : Nat → Nm} : ∀ {n : Nat} {c : Int}, prodsR x y n = .error c → c = 4
  | 0, c, h => by cases h
  | n + 1, c, h => by
    simp only [prodsR] at h
    split at h
    · next c' hc => cases h; exact prodsR_code hc
    · split at h
      · next c' hc => cases h; exact mk_err hc
      · exact mk_err h
/-- The sum of powers, one after the other. -/
def lenR (v : Nat → Nm) : Nat → NR
  | 0 => .ok Nm.zero
  | k + 1 => match lenR v k with
    | .error c => .error c
    | .ok s => match (v k).power with
      | .error c => .error c
      | .ok p => s.add p
theorem lenR_err {v : Nat → Nm} {k : Nat} {c : Int} (h : lenR v k = .error c) : ∀ m, k ≤ m → lenR v m = .error c := by
  intro m hm
  induction m with
  | zero => obtain rfl : k = 0 := by omega
            exact h
  | succ m ih =>
    rcases (by omega : k = m + 1 ∨ k ≤ m) with rfl | hm
    · exact h
    · simp only [lenR, ih hm]
theorem power_val {z p : Nm} (hz : z.Ok) (h : z.power = .ok p) : p.Ok ∧ p.val = z.val * Q4.conj z.val := by
  have hc := conj_ok hz
  obtain ⟨po, -, pe⟩ := mk_ok (mulR_k hz.k0 hc.k0) h
  exact ⟨po, by rw [val_eqv po.k0 (mulR_k hz.k0 hc.k0) pe, val_mulR hz.k0 hc.k0, val_conj]⟩
theorem lenR_val {v : Nat → Nm} (hv : ∀ k, (v k).Ok) : ∀ {n : Nat} {z : Nm}, lenR v n = .ok z → z.Ok ∧ z.val = sumQ n fun k => (v k).val * Q4.conj (v k).val
  | 0, z, h => by
    cases h
    exact ⟨zero_ok, val_zero⟩
  | n + 1, z, h => by
    simp only [lenR] at h
    split at h
    · cases h
    · next s hs =>
      split at h
      · cases h
      · next p hp =>
        obtain ⟨so, sv⟩ := lenR_val hv hs
        obtain ⟨po, pv⟩ := power_val (hv n) hp
        obtain ⟨zo, -, ze⟩ := mk_ok (addR_k so.k0) h
        refine ⟨zo, ?_⟩
        show _ = sumQ n _ + _
        rw [val_eqv zo.k0 (addR_k so.k0) ze, val_addR so.k0 po.k0, sv, pv]
end Go.Proofs.Ytjeijnjaleldkaa
namespace Go.Proofs.Ytjeijnjaleldkaa
set_option linter.all false
open Go.RowKit

set_option maxRecDepth 100000 in
set_option maxHeartbeats 1000000 in
theorem products_any (n : Nat) (hn6 : n ≤ 6) (x y : Nat → Nm) (fv : Value) (hx : ∀ k, k < n → (x k).Ok) (hy : ∀ k, k < n → (y k).Ok) (w : World) (hF : FnV w fv (D1 n fun k => .tuple #[nmV (x k), nmV (y k)])) : Calls Try.prog 98 #[.int .i64 n, fv] w fun e w' => e = .returned (numV (prodsR x y n)) ∧ Below w.heap.size w w' := by
  go_enter Try.func98, Try.ntmps98
  refine wk_start ?_
  refine wk_seq ?_
  refine wk_region [1, 0] rfl Kx ?_
  simp only [qy]
  refine Rgn fun g1 => ?_
  simp only [qz]
  refine rg_assign ?_
  simp only [qz]
  refine rg_nil (ek_next (wk_seq ?_))
  refine wk_region [1] rfl Kx ?_
  simp only [qy]
  refine Rgn fun g2 => ?_
  simp only [qz]
  refine rg_nil (ek_next (wk_seq (wk_seq ?_)))
  refine wk_region [0, 0] rfl Kx ?_
  simp only [qy]
  refine rg_move ?_
  simp only [qz]
  refine rg_move ?_
  simp only [qz]
  refine rg_nil (ek_next (wk_block ?_))
  refine wk_loopF [5, 7, 8, 9, 10, 11, 13, 14, 15, 16, 17, 18, 19, 20, 21, 22, 23, 24, 25, 26, 27, 28, 29, 30, 31, 32, 33, 34, 35, 36, 37, 38, 39, 40, 41, 42] (fun mz f s => ∃ (k : Nat) (ac : Nm), f 13 = .int .i64 k ∧ s = ((g2, .cells #[.int .i64 ac.a, .int .i64 ac.b, .int .i64 ac.c, .int .i64 ac.d, .int .i64 ac.k] 29) :: ((g1, .cells #[.int .i64 0, .int .i64 0, .int .i64 0, .int .i64 0, .int .i64 0] 29) :: [])) ∧ mz = n - k ∧ k ≤ n ∧ Hid (prodsR x y k = .ok ac) ∧ ac.Ok) ((fun (k : Nat) (ac : Nm) => n - k) (0) (Nm.zero)) ?_ Kx ?_
  · exact ⟨0, Nm.zero, rfl, rfl, rfl, by omega, (Lib.hid rfl), zero_ok⟩
  rintro mz f1 s ⟨k, ac, hs1_13, rfl, hn, hd1, hd2, hd3⟩
  simp only [Act.putF, List.foldl_cons, List.foldl_nil, hs1_13, Act.put, Act.eval, q1, q2, q3, q4, q5, q6, q7, q8, q9, q10, q11, q12, q13, q14, q15, q16, q17, q18, Nat.reduceAdd, Bool.not_true, Bool.not_false]
  clear hs1_13
  refine wk_seq ?_
  refine wk_region [0] rfl Kx ?_
  simp only [qy]
  refine rfb_lss rfl rfl rfl rfl ?_
  intro x h1
  cases x
  · (try simp only [qd, ne_eq] at h1)
    simp only [qz]
    refine rg_nil (ek_next (wk_seq (wk_cond_f rfl (wk_exit (ek_then_exit (ek_then_exit (ek_block_exit (ek_next (wk_seq ?_)))))))))
    refine wk_region [0, 1, 0] rfl Kx ?_
    simp only [qy]
    refine rf_loadR (n := 5) rfl rfl rfl Try.underlying29 rfl Kx (fun w hw => Kn.hd0 hw) rfl rfl ?_
    simp only [qz]
    refine rf_storeR (n := 5) rfl rfl Kx rfl rfl (UpdR.there _ (UpdR.here _ _ _ Nl)) Nz ?_
    simp only [qz, Nat.reduceAdd]
    refine rg_assign ?_
    simp only [qz]
    refine rg_nil (ek_next (wk_ret ?_))
    refine ek_ret (fun w hw => ⟨rfl, _, run_results2 rfl rfl (Kn.hd0 (Kn.tl hw)) Try.underlying29 rfl Kx, ?_⟩)
    (try simp only [qz])
    obtain rfl : n = k := by omega
    exact ⟨by rw [hd2.out]; rfl, hw.below⟩
  (try simp only [qd, ne_eq] at h1)
  simp only [qz]
  refine rg_nil (ek_next (wk_seq (wk_cond_t rfl (wk_skip (ek_next (wk_seq (wk_block (wk_seq ?_))))))))
  refine wk_region [0, 0] rfl Kx ?_
  simp only [qy]
  refine rg_move ?_
  simp only [qz]
  refine rg_assign ?_
  simp only [qz]
  refine rg_nil (ek_next (wk_seq ?_))
  refine wk_region [0, 0, 1, 0, 0, 0, 1, 1, 1, 1] rfl Kx ?_
  simp only [qy]
  refine rg_move ?_
  simp only [qz]
  refine rg_move ?_
  simp only [qz]
  have hxk := hx k Ox
  have hyk := hy k Ox
  refine rg_fnv (.tuple #[nmV (x k), nmV (y k)]) Rx hF rfl (by simp only [qm, qs, Act.eval] <;> rfl) ⟨k, by omega, rfl, rfl⟩ Nz ?_
  simp only [qz]
  refine rg_move ?_
  simp only [qz]
  refine rf_extract rfl rfl rfl rfl ?_
  simp only [qz]
  refine rf_extract rfl rfl rfl rfl ?_
  simp only [qz]
  refine Rgn fun g3 => ?_
  simp only [qz]
  refine Rgn fun g4 => ?_
  simp only [qz]
  refine rf_storeR (n := 5) rfl rfl Kx rfl rfl (UpdR.there _ (UpdR.here _ _ _ Nl)) Nz ?_
  simp only [qz, Nat.reduceAdd]
  refine rf_storeR (n := 5) rfl rfl Kx rfl rfl (UpdR.here _ _ _ Nl) Nz ?_
  simp only [qz, Nat.reduceAdd]
  refine rg_nil (ek_next (wk_seq ?_))
  refine wk_region [0, 0, 1, 0, 0, 0, 1, 1, 0] rfl Kx ?_
  simp only [qy]
  refine rf_loadR (n := 5) rfl rfl rfl Try.underlying29 rfl Kx (fun w hw => Kn.hd0 (Kn.tl hw)) rfl rfl ?_
  simp only [qz]
  refine rf_loadR (n := 5) rfl rfl rfl Try.underlying29 rfl Kx (fun w hw => Kn.hd0 hw) rfl rfl ?_
  simp only [qz]
  apply rg_num Rx Kx
  case hargs => exact Ax
  case h => exact fun w hw => amMul_ok (x k) (y k) hxk hyk w
  case hz => exact Nz
  case hc => exact (fun c h => mk_err h)
  · intro hr2
    simp only [qz]
    refine rg_move ?_
    simp only [qz]
    refine rf_extract rfl rfl rfl rfl ?_
    simp only [qz]
    refine rf_extract rfl rfl rfl rfl ?_
    simp only [qz]
    refine Rgn fun g5 => ?_
    simp only [qz]
    refine rf_storeR (n := 5) rfl rfl Kx rfl rfl (UpdR.here _ _ _ Nl) Nz ?_
    simp only [qz, Nat.reduceAdd]
    refine rg_assign ?_
    simp only [qz]
    refine rg_nil (ek_next (wk_seq (wk_seq ?_)))
    refine wk_region [0, 0] rfl Kx ?_
    simp only [qy]
    refine rg_move ?_
    simp only [qz]
    refine rf_neq (b := true) rfl rfl rfl rfl (by decide) ?_
    simp only [qz]
    refine rg_nil (ek_next (wk_cond_t rfl (wk_seq ?_)))
    refine wk_region [0, 0, 1, 0] rfl Kx ?_
    simp only [qy]
    refine rf_build (cs := fun a => #[.int .i64 0, .int .i64 0, .int .i64 0, .int .i64 0, .int .i64 0]) rfl rfl Kx ?_
    simp only [qz]
    refine rg_move ?_
    simp only [qz]
    refine rf_storeR (n := 5) rfl rfl Kx rfl rfl (UpdR.there _ (UpdR.there _ (UpdR.there _ (UpdR.there _ (UpdR.here _ _ _ Nl))))) Nz ?_
    simp only [qz, Nat.reduceAdd]
    refine rg_assign ?_
    simp only [qz]
    refine rg_nil (ek_next (wk_ret (ek_then_ret (ek_block_ret (ek_then_ret (ek_then_ret (ek_block_ret (ek_then_ret ?_))))))))
    refine ek_ret (fun w hw => ⟨rfl, _, run_results2 rfl rfl (Kn.hd0 (Kn.tl (Kn.tl (Kn.tl (Kn.tl hw))))) Try.underlying29 rfl Kx, ?_⟩)
    (try simp only [qz])
    exact ⟨by rw [prodsR_err (k := k + 1) (c := 4) (by simp only [prodsR, hd2.out, hr2]) n Ox]; rfl, hw.below⟩
  intro z2 hr2
  simp only [qz]
  refine rg_move ?_
  simp only [qz]
  refine rf_extract rfl rfl rfl rfl ?_
  simp only [qz]
  refine rf_extract rfl rfl rfl rfl ?_
  simp only [qz]
  refine Rgn fun g6 => ?_
  simp only [qz]
  refine rf_storeR (n := 5) rfl rfl Kx rfl rfl (UpdR.here _ _ _ Nl) Nz ?_
  simp only [qz, Nat.reduceAdd]
  refine rg_assign ?_
  simp only [qz]
  refine rg_nil (ek_next (wk_seq (wk_seq ?_)))
  refine wk_region [0, 0] rfl Kx ?_
  simp only [qy]
  refine rg_move ?_
  simp only [qz]
  refine rf_neq (b := false) rfl rfl rfl rfl (by decide) ?_
  simp only [qz]
  refine rg_nil (ek_next (wk_cond_f rfl (wk_skip (ek_next (wk_seq ?_)))))
  refine wk_region [0, 0, 1, 0, 0, 0, 1, 0] rfl Kx ?_
  simp only [qy]
  refine rf_loadR (n := 5) rfl rfl rfl Try.underlying29 rfl Kx (fun w hw => Kn.hd0 (Kn.tl (Kn.tl (Kn.tl hw)))) rfl rfl ?_
  simp only [qz]
  refine rf_loadR (n := 5) rfl rfl rfl Try.underlying29 rfl Kx (fun w hw => Kn.hd0 hw) rfl rfl ?_
  simp only [qz]
  have hpk := (mk_ok (mulR_k hxk.k0 hyk.k0) hr2).1
  apply rg_num Rx Kx
  case hargs => exact Ax
  case h => exact fun w hw => amAdd_ok ac z2 hd3 hpk w
  case hz => exact Nz
  case hc => exact (fun c h => mk_err h)
  · intro hr3
    simp only [qz]
    refine rg_move ?_
    simp only [qz]
    refine rf_extract rfl rfl rfl rfl ?_
    simp only [qz]
    refine rf_extract rfl rfl rfl rfl ?_
    simp only [qz]
    refine rf_storeR (n := 5) rfl rfl Kx rfl rfl (UpdR.there _ (UpdR.there _ (UpdR.there _ (UpdR.here _ _ _ Nl)))) Nz ?_
    simp only [qz, Nat.reduceAdd]
    refine rg_assign ?_
    simp only [qz]
    refine rg_nil (ek_next (wk_seq ?_))
    refine wk_region [0, 0] rfl Kx ?_
    simp only [qy]
    refine rg_move ?_
    simp only [qz]
    refine rf_neq (b := true) rfl rfl rfl rfl (by decide) ?_
    simp only [qz]
    refine rg_nil (ek_next (wk_cond_t rfl (wk_seq ?_)))
    refine wk_region [0, 0, 1, 0] rfl Kx ?_
    simp only [qy]
    refine rf_build (cs := fun a => #[.int .i64 0, .int .i64 0, .int .i64 0, .int .i64 0, .int .i64 0]) rfl rfl Kx ?_
    simp only [qz]
    refine rg_move ?_
    simp only [qz]
    refine rf_storeR (n := 5) rfl rfl Kx rfl rfl (UpdR.there _ (UpdR.there _ (UpdR.there _ (UpdR.there _ (UpdR.here _ _ _ Nl))))) Nz ?_
    simp only [qz, Nat.reduceAdd]
    refine rg_assign ?_
    simp only [qz]
    refine rg_nil (ek_next (wk_ret (ek_block_ret (ek_then_ret (ek_then_ret (ek_block_ret (ek_then_ret ?_)))))))
    refine ek_ret (fun w hw => ⟨rfl, _, run_results2 rfl rfl (Kn.hd0 (Kn.tl (Kn.tl (Kn.tl (Kn.tl hw))))) Try.underlying29 rfl Kx, ?_⟩)
    (try simp only [qz])
    exact ⟨by rw [prodsR_err (k := k + 1) (c := 4) (by simp only [prodsR, hd2.out, hr2, hr3]) n Ox]; rfl, hw.below⟩
  intro z3 hr3
  simp only [qz]
  refine rg_move ?_
  simp only [qz]
  refine rf_extract rfl rfl rfl rfl ?_
  simp only [qz]
  refine rf_extract rfl rfl rfl rfl ?_
  simp only [qz]
  refine rf_storeR (n := 5) rfl rfl Kx rfl rfl (UpdR.there _ (UpdR.there _ (UpdR.there _ (UpdR.here _ _ _ Nl)))) Nz ?_
  simp only [qz, Nat.reduceAdd]
  refine rg_assign ?_
  simp only [qz]
  refine rg_nil (ek_next (wk_seq ?_))
  refine wk_region [0, 0] rfl Kx ?_
  simp only [qy]
  refine rg_move ?_
  simp only [qz]
  refine rf_neq (b := false) rfl rfl rfl rfl (by decide) ?_
  simp only [qz]
  refine rg_nil (ek_next (wk_cond_f rfl (wk_skip (ek_block (ek_next ?_)))))
  refine wk_region [0, 0] rfl Kx ?_
  simp only [qy]
  refine rf_add rfl rfl rfl rfl (wrap_ok Ox Ox) ?_
  simp only [qz]
  refine rg_move ?_
  simp only [qz]
  refine rg_nil ?_
  refine ek_sub (sk _ (sk _ (sk _ (sc _ (sc _ sn))))) ?_
  refine ek_roundF (n - (k + 1)) Ox Kx ?_
  exact ⟨k + 1, z3, rfl, by rfl, by rfl, Ox, (Lib.hid (by simp only [prodsR, hd2.out, hr2, hr3])), (mk_ok (addR_k hd3.k0) hr3).1⟩

set_option maxRecDepth 100000 in
set_option maxHeartbeats 1000000 in
theorem mul11_any (xs ys : List Nm) (a a' : Option Addr) (c c' : Nat) (N : Nat) (hN : N ≤ 6) (hlx : Hid (xs.length = N * N)) (hly : Hid (ys.length = N * N)) (i j k gx gi gy gk : Nat) (hi : i < N) (hj : j < N) (hk : k < N) (w : World) (hA : AS w a (nms xs)) (hB : AS w a' (nms ys)) (hX : Hd w gx 83 #[.int .i64 N, .slice a xs.length c]) (hY : Hd w gy 83 #[.int .i64 N, .slice a' ys.length c']) (hI : Hd w gi 3 #[.int .i64 i]) (hK : Hd w gk 3 #[.int .i64 k]) : Calls Try.prog 99 #[.int .i64 (j : Int), .pointer (some ⟨gx, 0, none⟩), .pointer (some ⟨gi, 0, none⟩), .pointer (some ⟨gy, 0, none⟩), .pointer (some ⟨gk, 0, none⟩)] w fun e w' => e = .returned (.tuple #[nmV (nm xs (i * N + j)), nmV (nm ys (j * N + k))]) ∧ Below w.heap.size w w' := by
  go_enter Try.func99, Try.ntmps99
  refine wk_start ?_
  refine wk_seq ?_
  refine wk_region [1, 1] rfl Kx ?_
  simp only [qy]
  refine Rgn fun g1 => ?_
  simp only [qz]
  refine Rgn fun g2 => ?_
  simp only [qz]
  refine rg_nil (ek_next (wk_seq ?_))
  refine wk_draws_m (hz1 := (sk _ (sk _ sn))) [(0, 0), (1, 0), (2, 0), (4, 3), (5, 3), (6, 3), (3, 1), (7, 1), (8, 2), (9, 1)] 8 Kx Kx (fun c d v a w h => by cases d <;> exact h) ?_
  simp only [List.map_cons, List.map_nil, List.getD_cons_zero, List.getD_cons_succ]
  refine rf_loadC (n := 2) (vs := [.int .i64 N, .slice a xs.length c]) rfl rfl rfl Try.underlying83 rfl Kx rfl (fun w hw => cells_range (Kn.hdB hw hX (by simp)) 0 2) ?_
  simp only [qz]
  refine rf_load (v := .int .i64 i) rfl rfl rfl Try.underlying3 rfl (fun w hw => (Kn.hdB hw hI (by simp)).at (i := 0) rfl) ?_
  simp only [qz]
  refine rg_move ?_
  simp only [qz]
  refine rf_loadC (n := 2) (vs := [.int .i64 N, .slice a' ys.length c']) rfl rfl rfl Try.underlying83 rfl Kx rfl (fun w hw => cells_range (Kn.hdB hw hY (by simp)) 0 2) ?_
  simp only [qz]
  refine rg_moveP ?_
  simp only [qz]
  refine rf_load (v := .int .i64 k) rfl rfl rfl Try.underlying3 rfl (fun w hw => (Kn.hdB hw hK (by simp)).at (i := 0) rfl) ?_
  simp only [qz]
  apply rg_pure Rx Kx
  case hargs => exact Ax
  case h => exact fun w hw => at_any N i j xs a c hlx.out hN hi hj w (hA.kn0 hw)
  case hz => exact (fun _ h => by cases h; exact (sc _ (sc _ sn)))
  simp only [qz]
  apply rg_pure Rx Kx
  case hargs => exact Ax
  case h => exact fun w hw => at_any N j k ys a' c' hly.out hN hj hk w (hB.kn0 hw)
  case hz => exact (fun _ h => by cases h; exact (sc _ (sc _ sn)))
  simp only [qz]
  refine rf_storeRM (n := 5) rfl rfl Kx rfl rfl (UpdR.there _ (UpdR.here _ _ _ Nl)) (sk _ (sk _ sn)) ?_
  simp only [qz, Nat.reduceAdd]
  refine rf_storeR (n := 5) rfl rfl Kx rfl rfl (UpdR.here _ _ _ Nl) (fun _ h => by cases h; exact (sk _ (sk _ sn))) ?_
  simp only [qz, Nat.reduceAdd]
  refine rg_nil (ek_next (wk_ret ?_))
  refine ek_ret (fun w hw => ⟨rfl, _, run_results_c2 rfl rfl (Kn.hd0 (Kn.tl hw)) Try.underlying29 rfl Kx rfl (Kn.hd0 hw) Try.underlying29 rfl Kx, ?_⟩)
  exact ⟨rfl, hw.below⟩

def mulF (N : Nat) (xs ys : List Nm) (i k : Nat) : NR := prodsR (fun j => nm xs (i * N + j)) (fun j => nm ys (j * N + k)) N
theorem ek_rfl_num {r : NR} {v : Nm} {c : Int} (h : numV r = .tuple #[nmV v, .int .i64 c]) : Ending.returned (.tuple #[nmV v, .int .i64 c]) = .returned (numV r) := by rw [h]
set_option maxRecDepth 100000 in
set_option maxHeartbeats 1000000 in
theorem mul1_any (xs ys : List Nm) (a a' : Option Addr) (c c' : Nat) (N : Nat) (hN : N ≤ 6) (hlx : Hid (xs.length = N * N)) (hly : Hid (ys.length = N * N)) (hox : allOk xs = true) (hoy : allOk ys = true) (i k gm gx gy : Nat) (hi : i < N) (hk : k < N) (w : World) (hA : AS w a (nms xs)) (hB : AS w a' (nms ys)) (hM : Hd w gm 24 #[.int .i64 N, .slice a xs.length c]) (hX : Hd w gx 83 #[.int .i64 N, .slice a xs.length c]) (hY : Hd w gy 83 #[.int .i64 N, .slice a' ys.length c']) : Calls Try.prog 97 #[.int .i64 (i : Int), .int .i64 (k : Int), .pointer (some ⟨gm, 0, none⟩), .pointer (some ⟨gx, 0, none⟩), .pointer (some ⟨gy, 0, none⟩)] w fun e w' => e = .returned (numV (mulF N xs ys i k)) ∧ Below w.heap.size w w' := by
  go_enter Try.func97, Try.ntmps97
  refine wk_start ?_
  refine wk_seq ?_
  refine wk_region [1, 1, 1, 0] rfl Kx ?_
  simp only [qy]
  refine Rgn fun g1 => ?_
  simp only [qz]
  refine Rgn fun g2 => ?_
  simp only [qz]
  refine Rgn fun g3 => ?_
  simp only [qz]
  refine rg_assign ?_
  simp only [qz]
  refine rg_nil (ek_next (wk_seq ?_))
  refine wk_region [0, 0, 0, 1, 0, 0, 1, 0] rfl Kx ?_
  simp only [qy]
  apply rg_soft
  case hy => (intro w hw; go_simp; (try go_bits); exact Yld.mk _ _)
  simp only [qz]
  refine rf_load (v := .int .i64 N) rfl rfl rfl Try.underlying3 rfl (fun w hw => (Kn.hdB hw hM (by simp)).at (i := 0) rfl) ?_
  simp only [qz]
  apply rg_soft
  case hy => (intro w hw; go_simp; (try go_bits); exact Yld.mk _ _)
  simp only [qz]
  apply rg_pure Rx Kx
  case hargs => exact Ax
  case h => exact fun w hw => products_any N hN (fun j => nm xs (i * N + j)) (fun j => nm ys (j * N + k)) _ (fun j hj => elemOk hox hlx.out hi hj) (fun j hj => elemOk hoy hly.out hj hk) w ⟨_, _, _, rfl, by kernel_rfl, fun w' hb vs r ⟨j, hj, hv, hr⟩ => by
      subst hv hr
      have h := mul11_any xs ys a a' c c' N hN hlx hly i j k gx g1 gy g2 hi hj hk w' ((hA.kn0 hw).below hb) ((hB.kn0 hw).below hb) ((Kn.hdB hw hX (by simp)).belowS hb) ((Kn.hdB hw hY (by simp)).belowS hb) ((Kn.hd0 (Kn.tl (Kn.tl hw))).belowS hb) ((Kn.hd0 (Kn.tl hw)).belowS hb)
      simpa using h⟩
  case hz => exact Nz
  simp only [qz]
  obtain ⟨v, e, hve⟩ := numV_ve2 (prodsR (fun j => nm xs (i * N + j)) (fun j => nm ys (j * N + k)) N)
  rw [hve]
  replace hve := Lib.hid hve
  refine rf_extract rfl rfl rfl rfl ?_
  simp only [qz]
  refine rf_extract rfl rfl rfl rfl ?_
  simp only [qz]
  refine rf_storeR (n := 5) rfl rfl Kx rfl rfl (UpdR.here _ _ _ Nl) Nz ?_
  simp only [qz, Nat.reduceAdd]
  refine rg_assign ?_
  simp only [qz]
  refine rg_nil (ek_next (wk_ret ?_))
  refine ek_ret (fun w hw => ⟨rfl, _, run_results2 rfl rfl (Kn.hd0 hw) Try.underlying29 rfl Kx, ?_⟩)
  (try simp only [qz])
  exact ⟨(congrArg Ending.returned hve.out).symm, hw.below⟩

end Go.Proofs.Ytjeijnjaleldkaa
namespace Go.Proofs.Ytjeijnjaleldkaa
set_option linter.all false
open Go.RowKit

def mulM (n m : Int) (xs ys : List Nm) : LR := if validB n xs && validB m ys then (if n = m then madeR n.toNat (mulF n.toNat xs ys) else .error 21) else .error 20
set_option maxRecDepth 100000 in
set_option maxHeartbeats 1000000 in
theorem mul_any (n m : Int) (xs ys : List Nm) (a a' : Option Addr) (c c' : Nat) (hl : xs.length ≤ 1000000) (hl' : ys.length ≤ 1000000) (w : World) (hA : AS w a (nms xs)) (hB : AS w a' (nms ys)) : Calls Try.prog 48 #[.agg #[.int .i64 n, .slice a xs.length c], .agg #[.int .i64 m, .slice a' ys.length c']] w fun e w' => RetM w (rN n.toNat (mulM n m xs ys)) (rL (mulM n m xs ys)) (rC (mulM n m xs ys)) e w' := by
  go_enter Try.func48, Try.ntmps48
  refine wk_start ?_
  refine wk_seq ?_
  refine wk_region [1, 1, 1, 0] rfl Kx ?_
  simp only [qy]
  refine Rgn fun g1 => ?_
  simp only [qz]
  refine Rgn fun g2 => ?_
  simp only [qz]
  refine Rgn fun g3 => ?_
  simp only [qz]
  refine rg_assign ?_
  simp only [qz]
  refine rg_nil (ek_next (wk_seq (wk_block (wk_seq ?_))))
  refine wk_region [0, 1, 0, 0, 0, 1, 0, 0, 0] rfl Kx ?_
  simp only [qy]
  refine rf_loadR (n := 2) rfl rfl rfl Try.underlying24 rfl Kx (fun w hw => Kn.hd0 (Kn.tl (Kn.tl hw))) rfl rfl ?_
  simp only [qz]
  apply rg_pureb Rx Kx
  case hargs => exact Ax
  case h => exact fun w hw => mvalid_any n xs a c hl w (hA.kn0 hw)
  case hz => exact Nz
  intro x h1
  cases x
  · (try simp only [qd, ne_eq] at h1)
    simp only [qz]
    refine rf_not rfl rfl rfl ?_
    simp only [qz]
    refine rg_move ?_
    simp only [qz]
    refine rg_skip Rx ?_
    simp only [qz]
    refine rg_skip_h Rx Nz ?_
    simp only [qz]
    refine rg_skip Rx ?_
    simp only [qz]
    refine rf_pick rfl rfl rfl ?_
    simp only [qz]
    refine rg_assign ?_
    simp only [qz]
    refine rg_nil (ek_next (wk_cond_t rfl (wk_seq ?_)))
    refine wk_region [0, 1, 0] rfl Kx ?_
    simp only [qy]
    refine rf_build (cs := fun a => #[.int .i64 0, .slice none 0 0]) rfl rfl Kx ?_
    simp only [qz]
    refine rf_storeR (n := 2) rfl rfl Kx rfl rfl (UpdR.here _ _ _ Nl) Nz ?_
    simp only [qz, Nat.reduceAdd]
    refine rg_assign ?_
    simp only [qz]
    refine rg_nil (ek_next (wk_ret (ek_block_ret (ek_then_ret ?_))))
    refine ek_ret (fun w hw => ⟨rfl, _, run_results2 rfl rfl (Kn.hd0 hw) Try.underlying24 rfl Kx, ?_⟩)
    (try simp only [qz])
    exact retM_err (c := 20) (by unfold mulM; rw [h1]; rfl) hw.below
  (try simp only [qd, ne_eq] at h1)
  simp only [qz]
  have hv := h1
  obtain ⟨N, rfl, hN1, hN, hlx, hlx36, hox⟩ := validB_N' hv
  replace hlx := Lib.hid hlx
  refine rf_not rfl rfl rfl ?_
  simp only [qz]
  refine rg_move ?_
  simp only [qz]
  refine rf_loadR (n := 2) rfl rfl rfl Try.underlying24 rfl Kx (fun w hw => Kn.hd0 (Kn.tl hw)) rfl rfl ?_
  simp only [qz]
  apply rg_pureb Rx Kx
  case hargs => exact Ax
  case h => exact fun w hw => mvalid_any m ys a' c' hl' w (hB.kn0 hw)
  case hz => exact Nz
  intro x h2
  cases x
  · (try simp only [qd, ne_eq] at h2)
    simp only [qz]
    refine rf_not rfl rfl rfl ?_
    simp only [qz]
    refine rf_pick rfl rfl rfl ?_
    simp only [qz]
    refine rg_assign ?_
    simp only [qz]
    refine rg_nil (ek_next (wk_cond_t rfl (wk_seq ?_)))
    refine wk_region [0, 1, 0] rfl Kx ?_
    simp only [qy]
    refine rf_build (cs := fun a => #[.int .i64 0, .slice none 0 0]) rfl rfl Kx ?_
    simp only [qz]
    refine rf_storeR (n := 2) rfl rfl Kx rfl rfl (UpdR.here _ _ _ Nl) Nz ?_
    simp only [qz, Nat.reduceAdd]
    refine rg_assign ?_
    simp only [qz]
    refine rg_nil (ek_next (wk_ret (ek_block_ret (ek_then_ret ?_))))
    refine ek_ret (fun w hw => ⟨rfl, _, run_results2 rfl rfl (Kn.hd0 hw) Try.underlying24 rfl Kx, ?_⟩)
    (try simp only [qz])
    exact retM_err (c := 20) (by unfold mulM; rw [h2, Bool.and_false]; rfl) hw.below
  (try simp only [qd, ne_eq] at h2)
  simp only [qz]
  have hv2 := h2
  obtain ⟨M, rfl, hM1, hM, hly, hly36, hoy⟩ := validB_N' hv2
  replace hly := Lib.hid hly
  refine rf_not rfl rfl rfl ?_
  simp only [qz]
  refine rf_pick rfl rfl rfl ?_
  simp only [qz]
  refine rg_assign ?_
  simp only [qz]
  refine rg_nil (ek_next (wk_cond_f rfl (wk_seq ?_)))
  refine wk_region [0, 0, 0, 0, 0, 0] rfl Kx ?_
  simp only [qy]
  refine rf_field (n := 0) (j := 0) rfl rfl rfl Try.underlying24 rfl Kx rfl ?_
  simp only [qz]
  refine rf_load rfl rfl rfl Try.underlying3 rfl (fun w hw => (Kn.hd0 (Kn.tl (Kn.tl hw))).at rfl) ?_
  simp only [qz]
  refine rf_field (n := 0) (j := 0) rfl rfl rfl Try.underlying24 rfl Kx rfl ?_
  simp only [qz]
  refine rf_load rfl rfl rfl Try.underlying3 rfl (fun w hw => (Kn.hd0 (Kn.tl hw)).at rfl) ?_
  simp only [qz]
  refine rfb_neq rfl rfl rfl rfl ?_
  intro x h3
  cases x
  · (try simp only [qd, ne_eq] at h3)
    simp only [qz]
    obtain rfl : N = M := by omega
    have hcp : mulM (N : Int) (N : Int) xs ys = madeR N (mulF N xs ys) := by (unfold mulM; rw [hv, hv2, Bool.and_self, if_pos rfl, if_pos rfl, Int.toNat_natCast])
    replace hcp := Lib.hid hcp
    refine rg_assign ?_
    simp only [qz]
    refine rg_nil (ek_next (wk_cond_f rfl (wk_skip (ek_block (ek_next ?_)))))
    refine wk_cutF [6, 7, 25, 26, 27, 28] (fun f s => ∃ (gx gy : Nat), f 6 = .pointer (some ⟨gx, 0, none⟩) ∧ f 7 = .pointer (some ⟨gy, 0, none⟩) ∧ s = ((gx, .cells #[.int .i64 N, .slice a xs.length c] 83) :: ((gy, .cells #[.int .i64 N, .slice a' ys.length c'] 83) :: ((g3, .cells #[.int .i64 0, .slice none 0 0] 24) :: ((g2, .cells #[.int .i64 N, .slice a' ys.length c'] 24) :: ((g1, .cells #[.int .i64 N, .slice a xs.length c] 24) :: [])))))) ?_ ?_
    · refine wk_rt _ Kx (sc _ (sc _ (sc _ sn))) ?_
      refine rt_soft (i := 0) rfl Kx (fun c d v a w h => by cases d <;> exact h) (sc _ (sc _ (sc _ sn))) ?_
      refine rf_loadR (n := 2) rfl rfl rfl Try.underlying24 rfl Kx (fun w hw => Kn.hd0 (Kn.tl (Kn.tl hw))) rfl rfl ?_
      simp only [qz]
      refine rg_nil ?_
      refine ek_rt (sc _ (sc _ (sc _ sn))) ?_
      refine rt_soft (i := 1) rfl Kx (fun c d v a w h => by cases d <;> exact h) (sc _ (sc _ (sc _ sn))) ?_
      refine rf_build (cs := fun a => #[cellAt (a.eval (.tmp 25)) 0, cellAt (a.eval (.tmp 25)) 1]) rfl rfl Kx ?_
      simp only [qz]
      refine rg_nil ?_
      refine ek_rt (sc _ (sc _ (sc _ sn))) ?_
      refine rt_soft (i := 2) rfl Kx (fun c d v a w h => by cases d <;> exact h) (sc _ (sc _ (sc _ sn))) ?_
      refine rf_loadR (n := 2) rfl rfl rfl Try.underlying24 rfl Kx (fun w hw => Kn.hd0 (Kn.tl hw)) rfl rfl ?_
      simp only [qz]
      refine rg_nil ?_
      refine ek_rt (sc _ (sc _ (sc _ sn))) ?_
      refine rt_soft (i := 3) rfl Kx (fun c d v a w h => by cases d <;> exact h) (sc _ (sc _ (sc _ sn))) ?_
      refine rf_build (cs := fun a => #[cellAt (a.eval (.tmp 27)) 0, cellAt (a.eval (.tmp 27)) 1]) rfl rfl Kx ?_
      simp only [qz]
      refine rg_nil ?_
      refine ek_rt (sc _ (sc _ (sc _ sn))) ?_
      refine rt_hard2 (i := 4) (j := 5) Kx rfl rfl ?_ ?_
      · refine rg_new (cs := ?_) (ty := ?_) Rx (fun w => ?_) (fun _ h => by cases h; exact (sc _ (sc _ (sc _ sn)))) (fun g4 => ?_); rotate_left 2
        focus (go_simp; rfl)
        simp only [qz]
        refine rg_nil ?_
        refine ek_rt (sk _ (sc _ (sc _ (sc _ sn)))) ?_
        refine rt_hard1 (i := 5) Kx rfl ?_
        refine rg_new (cs := ?_) (ty := ?_) Rx (fun w => ?_) (fun _ h => by cases h; exact (sk _ (sc _ (sc _ (sc _ sn))))) (fun g5 => ?_); rotate_left 2
        focus (go_simp; rfl)
        simp only [qz]
        refine rg_nil ?_
        refine ek_rt (sk _ (sk _ (sc _ (sc _ (sc _ sn))))) ?_
        refine rt_hard1 (i := 6) Kx rfl ?_
        refine rf_storeR (n := 2) rfl rfl Kx rfl rfl (UpdR.there _ (UpdR.here _ _ _ Nl)) (fun _ h => by cases h; exact (sk _ (sk _ (sc _ (sc _ (sc _ sn)))))) ?_
        simp only [qz, Nat.reduceAdd]
        refine rg_nil ?_
        refine ek_rt (sk _ (sk _ (sc _ (sc _ (sc _ sn))))) ?_
        refine rt_hard1 (i := 7) Kx rfl ?_
        refine rf_storeR (n := 2) rfl rfl Kx rfl rfl (UpdR.here _ _ _ Nl) (fun _ h => by cases h; exact (sk _ (sk _ (sc _ (sc _ (sc _ sn)))))) ?_
        simp only [qz, Nat.reduceAdd]
        refine rg_nil ?_
        refine ek_rt (sk _ (sk _ (sc _ (sc _ (sc _ sn))))) ?_
        refine rt_nil Kx ?_
        refine ek_perm (perm_at (l := [_]) (List.Perm.refl _)) ?_
        refine ek_midF Kx ?_
        exact ⟨g4, g5, rfl, rfl, by rfl⟩
      refine rg_new (cs := ?_) (ty := ?_) Rx (fun w => ?_) (fun _ h => by cases h; exact (sc _ (sc _ (sc _ sn)))) (fun g6 => ?_); rotate_left 2
      focus (go_simp; rfl)
      simp only [qz]
      refine rg_nil ?_
      refine ek_rt (sk _ (sc _ (sc _ (sc _ sn)))) ?_
      refine rt_hard1 (i := 4) Kx rfl ?_
      refine rg_new (cs := ?_) (ty := ?_) Rx (fun w => ?_) (fun _ h => by cases h; exact (sk _ (sc _ (sc _ (sc _ sn))))) (fun g7 => ?_); rotate_left 2
      focus (go_simp; rfl)
      simp only [qz]
      refine rg_nil ?_
      refine ek_rt (sk _ (sk _ (sc _ (sc _ (sc _ sn))))) ?_
      refine rt_hard1 (i := 6) Kx rfl ?_
      refine rf_storeR (n := 2) rfl rfl Kx rfl rfl (UpdR.here _ _ _ Nl) (fun _ h => by cases h; exact (sk _ (sk _ (sc _ (sc _ (sc _ sn)))))) ?_
      simp only [qz, Nat.reduceAdd]
      refine rg_nil ?_
      refine ek_rt (sk _ (sk _ (sc _ (sc _ (sc _ sn))))) ?_
      refine rt_hard1 (i := 7) Kx rfl ?_
      refine rf_storeR (n := 2) rfl rfl Kx rfl rfl (UpdR.there _ (UpdR.here _ _ _ Nl)) (fun _ h => by cases h; exact (sk _ (sk _ (sc _ (sc _ (sc _ sn)))))) ?_
      simp only [qz, Nat.reduceAdd]
      refine rg_nil ?_
      refine ek_rt (sk _ (sk _ (sc _ (sc _ (sc _ sn))))) ?_
      refine rt_nil Kx ?_
      refine ek_midF Kx ?_
      exact ⟨g7, g6, rfl, rfl, by rfl⟩
    rintro f1 s ⟨gx, gy, hs1_6, hs1_7, rfl⟩
    simp only [Act.putF, List.foldl_cons, List.foldl_nil, hs1_6, hs1_7, Act.put, Act.eval, q1, q2, q3, q4, q5, q6, q7, q8, q9, q10, q11, q12, q13, q14, q15, q16, q17, q18, Nat.reduceAdd, Bool.not_true, Bool.not_false]
    clear hs1_6 hs1_7
    refine wk_seq ?_
    refine wk_region [0, 0, 0, 1, 0, 0, 1, 0] rfl Kx ?_
    simp only [qy]
    refine rf_field (n := 0) (j := 0) rfl rfl rfl Try.underlying24 rfl Kx rfl ?_
    simp only [qz]
    refine rf_load rfl rfl rfl Try.underlying3 rfl (fun w hw => (Kn.hd0 (Kn.tl (Kn.tl (Kn.tl (Kn.tl hw))))).at rfl) ?_
    simp only [qz]
    apply rg_soft
    case hy => (intro w hw; go_simp; (try go_bits); exact Yld.mk _ _)
    simp only [qz]
    apply rg_retM Rx Kx
    case hargs => exact Ax
    case h => exact fun w hw => made_any N hN (mulF N xs ys) _ (fun i k c hi hk h => by have := prodsR_code h; omega) w ⟨_, _, _, rfl, by kernel_rfl, fun w' hb vs r ⟨i, k, hi, hk, hv, hr⟩ => by
        subst hv hr
        have h := mul1_any xs ys a a' c c' N hN hlx hly hox hoy i k g1 gx gy hi hk w' ((hA.kn0 hw).below hb) ((hB.kn0 hw).below hb) ((Kn.hd0 (Kn.tl (Kn.tl (Kn.tl (Kn.tl hw))))).belowS hb) ((Kn.hd0 hw).belowS hb) ((Kn.hd0 (Kn.tl hw)).belowS hb)
        simpa using h⟩
    case hz => exact Nz
    intro va9 vc9 u9 hO9
    simp only [qz]
    refine rf_extract rfl rfl rfl rfl ?_
    simp only [qz]
    refine rf_extract rfl rfl rfl rfl ?_
    simp only [qz]
    refine rf_storeR (n := 2) rfl rfl Kx rfl rfl (UpdR.app _ (UpdR.there _ (UpdR.there _ (UpdR.here _ _ _ Nl)))) Nz ?_
    simp only [qz, Nat.reduceAdd]
    refine rg_assign ?_
    simp only [qz]
    refine rg_nil (ek_next (wk_ret ?_))
    refine ek_ret (fun w hw => ⟨rfl, _, run_results2 rfl rfl (Kn.hd0 (Kn.tl (Kn.tl (Kn.tlU hw)))) Try.underlying24 rfl Kx, ?_⟩)
    (try simp only [qz])
    exact ⟨.slice va9 _ vc9, u9, by rw [hcp.out]; rfl, by rw [hcp.out]; exact hO9, hw.made (List.sublist_append_left _ _)⟩
  (try simp only [qd, ne_eq] at h3)
  simp only [qz]
  refine rg_assign ?_
  simp only [qz]
  refine rg_nil (ek_next (wk_cond_t rfl (wk_seq ?_)))
  refine wk_region [0, 1, 0] rfl Kx ?_
  simp only [qy]
  refine rf_build (cs := fun a => #[.int .i64 0, .slice none 0 0]) rfl rfl Kx ?_
  simp only [qz]
  refine rf_storeR (n := 2) rfl rfl Kx rfl rfl (UpdR.here _ _ _ Nl) Nz ?_
  simp only [qz, Nat.reduceAdd]
  refine rg_assign ?_
  simp only [qz]
  refine rg_nil (ek_next (wk_ret (ek_block_ret (ek_then_ret ?_))))
  refine ek_ret (fun w hw => ⟨rfl, _, run_results2 rfl rfl (Kn.hd0 hw) Try.underlying24 rfl Kx, ?_⟩)
  (try simp only [qz])
  exact retM_err (c := 21) (by unfold mulM; rw [hv, hv2, Bool.and_self, if_pos rfl, if_neg Ox]) hw.below

end Go.Proofs.Ytjeijnjaleldkaa
namespace Go.Proofs.Ytjeijnjaleldkaa
set_option linter.all false
open Go.RowKit

theorem tB_yes {z : Nm} (h : tB z = true) : tV z = tI z ∧ 0 ≤ tI z := by
  unfold tB at h
  unfold tV tI
  cases e : turnIx z with
  | none => rw [e] at h; cases h
  | some t => exact ⟨rfl, by show (0 : Int) ≤ t; omega⟩
theorem tB_no {z : Nm} (h : tB z = false) : tI z < 0 := by
  unfold tB at h
  unfold tI
  cases e : turnIx z with
  | none => show (-1 : Int) < 0; decide
  | some t => rw [e] at h; cases h
theorem mon_bad {n : Int} {xs : List Nm} (h : validB n xs = false) : monP n xs = [] ∧ monU n xs = [] ∧ monB n xs = false ∧ monE n xs = 20 := by
  unfold monP monU monB monE; rw [h]; exact ⟨rfl, rfl, rfl, rfl⟩
theorem mon_yes {N : Nat} {xs : List Nm} {p t : List Int} {u : List Bool} (h : validB N xs = true) (hm : monS xs N N = some (p, t, u)) : monP N xs = p ∧ monU N xs = t ∧ monB N xs = true ∧ monE N xs = 0 := by
  unfold monP monU monB monE; rw [h, Int.toNat_natCast, hm]; exact ⟨rfl, rfl, rfl, rfl⟩
theorem mon_none {N : Nat} {xs : List Nm} (h : validB N xs = true) (hm : monS xs N N = none) : monP N xs = [] ∧ monU N xs = [] ∧ monB N xs = false ∧ monE N xs = 0 := by
  unfold monP monU monB monE; rw [h, Int.toNat_natCast, hm]; exact ⟨rfl, rfl, rfl, rfl⟩
set_option maxRecDepth 100000 in
set_option maxHeartbeats 1000000 in
theorem mmonomial_any (n : Int) (xs : List Nm) (a : Option Addr) (c : Nat) (hl : xs.length ≤ 1000000) (w : World) (hA : AS w a (nms xs)) : Calls Try.prog 33 #[.agg #[.int .i64 n, .slice a xs.length c]] w fun e w' => RetMo w (monP n xs) (monU n xs) (monB n xs) (monE n xs) e w' := by
  go_enter Try.func33, Try.ntmps33
  refine wk_start ?_
  refine wk_seq ?_
  refine wk_region [1, 0, 0, 0, 0] rfl Kx ?_
  simp only [qy]
  refine Rgn fun g1 => ?_
  simp only [qz]
  refine rg_assign ?_
  simp only [qz]
  refine rg_assign ?_
  simp only [qz]
  refine rg_assign ?_
  simp only [qz]
  refine rg_assign ?_
  simp only [qz]
  refine rg_nil (ek_next (wk_seq (wk_seq ?_)))
  refine wk_region [0, 1, 0] rfl Kx ?_
  simp only [qy]
  refine rf_loadR (n := 2) rfl rfl rfl Try.underlying24 rfl Kx (fun w hw => Kn.hd0 hw) rfl rfl ?_
  simp only [qz]
  apply rg_pureb Rx Kx
  case hargs => exact Ax
  case h => exact fun w hw => mvalid_any n xs a c hl w (hA.kn0 hw)
  case hz => exact Nz
  intro x h1
  cases x
  · (try simp only [qd, ne_eq] at h1)
    simp only [qz]
    refine rf_not rfl rfl rfl ?_
    simp only [qz]
    refine rg_nil (ek_next (wk_cond_t rfl (wk_seq ?_)))
    refine wk_region [0, 0, 0, 0] rfl Kx ?_
    simp only [qy]
    refine rg_assign ?_
    simp only [qz]
    refine rg_assign ?_
    simp only [qz]
    refine rg_assign ?_
    simp only [qz]
    refine rg_assign ?_
    simp only [qz]
    refine rg_nil (ek_next (wk_ret (ek_then_ret ?_)))
    refine ek_ret (fun w hw => ⟨rfl, _, res_tttt _ _ _ _ rfl, ?_⟩)
    (try simp only [qz])
    obtain ⟨e1, e2, e3, e4⟩ := mon_bad h1
    rw [e1, e2, e3, e4]
    exact ⟨_, _, [], [], rfl, OwnZ.nil, OwnZ.nil, .nil hw.below⟩
  (try simp only [qd, ne_eq] at h1)
  simp only [qz]
  have hv := h1
  obtain ⟨N, rfl, hN1, hN, hlx, hlx36, hox⟩ := validB_N' hv
  replace hlx := Lib.hid hlx
  refine rf_not rfl rfl rfl ?_
  simp only [qz]
  refine rg_nil (ek_next (wk_cond_f rfl (wk_skip (ek_next (wk_seq ?_)))))
  refine wk_region [0, 0, 1, 1] rfl Kx ?_
  simp only [qy]
  refine rf_loadR (n := 2) rfl rfl rfl Try.underlying24 rfl Kx (fun w hw => Kn.hd0 hw) rfl rfl ?_
  simp only [qz]
  refine rf_build (cs := fun a => #[cellAt (a.eval (.tmp 18)) 0, cellAt (a.eval (.tmp 18)) 1]) rfl rfl Kx ?_
  simp only [qz]
  refine Rgn fun g2 => ?_
  simp only [qz]
  refine rf_storeR (n := 2) rfl rfl Kx rfl rfl (UpdR.here _ _ _ Nl) Nz ?_
  simp only [qz, Nat.reduceAdd]
  refine rg_nil (ek_next (wk_seq ?_))
  refine wk_region [0, 0, 1, 0] rfl Kx ?_
  simp only [qy]
  refine rf_field (n := 0) (j := 0) rfl rfl rfl Try.underlying24 rfl Kx rfl ?_
  simp only [qz]
  refine rf_load rfl rfl rfl Try.underlying3 rfl (fun w hw => (Kn.hd0 (Kn.tl hw)).at rfl) ?_
  simp only [qz]
  refine rg_makeB (n := N) Rx rfl rfl Ox Nz (fun g3 => ?_)
  simp only [qz]
  refine rg_assign ?_
  simp only [qz]
  refine rg_nil (ek_next (wk_seq (wk_seq ?_)))
  refine wk_region [0, 0, 0] rfl Kx ?_
  simp only [qy]
  refine rf_field (n := 0) (j := 0) rfl rfl rfl Try.underlying24 rfl Kx rfl ?_
  simp only [qz]
  refine rf_load rfl rfl rfl Try.underlying3 rfl (fun w hw => (Kn.hd0 (Kn.tl (Kn.tl hw))).at rfl) ?_
  simp only [qz]
  refine rg_move ?_
  simp only [qz]
  refine rg_nil (ek_next (wk_block ?_))
  refine wk_loopF [2, 3, 4, 5, 8, 9, 10, 11, 12, 13, 14, 25, 26, 27, 28, 29, 30, 31, 32, 33, 34, 35, 36, 37, 38, 39, 40, 41, 42, 43, 44, 45, 46, 47, 48, 49, 50, 51, 52, 53, 54, 55, 56, 57, 58, 59, 60, 61, 62, 63, 64, 65, 66, 67, 68, 69, 70, 71, 72, 73] (fun mz f s => ∃ (k : Nat) (pp tt : List Int) (ub : List Bool) (va vb : Option Addr) (vc vd : Nat) (u1 u2 : List Blk), f 2 = .slice va pp.length vc ∧ f 3 = .slice vb tt.length vd ∧ f 25 = .int .i64 k ∧ s = (u1 ++ (u2 ++ ((g3, .cells (boL ub).toArray 4) :: ((g2, .cells #[.int .i64 N, .slice a xs.length c] 83) :: ((g1, .cells #[.int .i64 N, .slice a xs.length c] 24) :: []))))) ∧ mz = N - k ∧ k ≤ N ∧ Hid (monS xs N k = some (pp, tt, ub)) ∧ OwnZ u1 (.slice va pp.length vc) pp ∧ OwnZ u2 (.slice vb tt.length vd) tt) ((fun (k : Nat) (pp tt : List Int) (ub : List Bool) (va vb : Option Addr) (vc vd : Nat) (u1 u2 : List Blk) => N - k) (0) ([]) ([]) (List.replicate N false) (none) (none) (0) (0) ([]) ([])) ?_ Kx ?_
  · exact ⟨0, [], [], List.replicate N false, none, none, 0, 0, [], [], rfl, rfl, rfl, rfl, rfl, by omega, Lib.hid rfl, OwnZ.nil, OwnZ.nil⟩
  rintro mz f1 s ⟨k, pp, tt, ub, va, vb, vc, vd, u1, u2, hs1_2, hs1_3, hs1_25, rfl, hn, hd1, hd2, hd3, hd4⟩
  simp only [Act.putF, List.foldl_cons, List.foldl_nil, hs1_2, hs1_3, hs1_25, Act.put, Act.eval, q1, q2, q3, q4, q5, q6, q7, q8, q9, q10, q11, q12, q13, q14, q15, q16, q17, q18, Nat.reduceAdd, Bool.not_true, Bool.not_false]
  clear hs1_2 hs1_3 hs1_25
  obtain ⟨hlp, hlt, hlu⟩ := monS_len hd2.out
  refine wk_seq ?_
  refine wk_region [0] rfl Kx ?_
  simp only [qy]
  refine rfb_lss rfl rfl rfl rfl ?_
  intro x h2
  cases x
  · (try simp only [qd, ne_eq] at h2)
    simp only [qz]
    refine rg_nil (ek_next (wk_seq (wk_cond_f rfl (wk_exit (ek_then_exit (ek_then_exit (ek_block_exit (ek_next (wk_seq ?_)))))))))
    refine wk_region [0, 0, 0, 0, 0, 0] rfl Kx ?_
    simp only [qy]
    refine rg_move ?_
    simp only [qz]
    refine rg_move ?_
    simp only [qz]
    refine rg_assign ?_
    simp only [qz]
    refine rg_assign ?_
    simp only [qz]
    refine rg_assign ?_
    simp only [qz]
    refine rg_assign ?_
    simp only [qz]
    refine rg_nil (ek_next (wk_ret ?_))
    refine ek_ret (fun w hw => ⟨rfl, _, res_tttt _ _ _ _ rfl, ?_⟩)
    (try simp only [qz])
    obtain rfl : N = k := by omega
    obtain ⟨e1, e2, e3, e4⟩ := mon_yes hv hd2.out
    rw [e1, e2, e3, e4]
    exact ⟨_, _, u1, u2, rfl, hd3, hd4, hw.made (List.Sublist.append_left (List.sublist_append_left _ _) _)⟩
  (try simp only [qd, ne_eq] at h2)
  simp only [qz]
  refine rg_nil (ek_next (wk_seq (wk_cond_t rfl (wk_skip (ek_next (wk_seq (wk_block (wk_seq ?_))))))))
  refine wk_region [0, 0] rfl Kx ?_
  simp only [qy]
  refine rg_move ?_
  simp only [qz]
  refine rg_assign ?_
  simp only [qz]
  refine rg_nil (ek_next (wk_seq ?_))
  refine wk_region [0, 0, 0] rfl Kx ?_
  simp only [qy]
  refine rg_assign ?_
  simp only [qz]
  refine rg_assign ?_
  simp only [qz]
  refine rg_assign ?_
  simp only [qz]
  refine rg_nil (ek_next (wk_seq (wk_seq ?_)))
  refine wk_region [0, 0, 0] rfl Kx ?_
  simp only [qy]
  refine rf_field (n := 0) (j := 0) rfl rfl rfl Try.underlying24 rfl Kx rfl ?_
  simp only [qz]
  refine rf_load rfl rfl rfl Try.underlying3 rfl (fun w hw => (Kn.hd0 (Kn.tl (Kn.tl (Kn.tlU (Kn.tlU hw))))).at rfl) ?_
  simp only [qz]
  refine rg_move ?_
  simp only [qz]
  refine rg_nil (ek_next (wk_block ?_))
  refine wk_loopF [2, 3, 4, 5, 9, 10, 11, 12, 13, 14, 30, 31, 32, 33, 34, 35, 36, 37, 38, 39, 40, 41, 42, 43, 44, 45, 46, 47, 48, 49, 50, 51, 52, 53, 54, 55, 56, 57, 58, 59] (fun mz f s => ∃ (i r ct : Nat) (tn : Int), f 2 = .slice va pp.length vc ∧ f 3 = .slice vb tt.length vd ∧ f 9 = .int .i64 r ∧ f 10 = .int .i64 tn ∧ f 11 = .int .i64 ct ∧ f 30 = .int .i64 i ∧ s = (u1 ++ (u2 ++ ((g3, .cells (boL ub).toArray 4) :: ((g2, .cells #[.int .i64 N, .slice a xs.length c] 83) :: ((g1, .cells #[.int .i64 N, .slice a xs.length c] 24) :: []))))) ∧ mz = N - i ∧ i ≤ N ∧ Hid (colT xs N k i = (r, tn, ct)) ∧ Hid (∀ j, j < i → nm xs (j * N + k) ≠ Nm.zero → 0 ≤ tI (nm xs (j * N + k)) ∧ bx ub j = false)) ((fun (i r ct : Nat) (tn : Int) => N - i) (0) (0) (0) (0)) ?_ Kx ?_
  · exact ⟨0, 0, 0, 0, rfl, rfl, rfl, rfl, rfl, rfl, rfl, rfl, by omega, Lib.hid rfl, Lib.hid (fun _ h => by omega)⟩
  rintro mz f2 s ⟨i, r, ct, tn, hs2_2, hs2_3, hs2_9, hs2_10, hs2_11, hs2_30, rfl, hn, he1, he2, he3⟩
  simp only [Act.putF, List.foldl_cons, List.foldl_nil, hs2_2, hs2_3, hs2_9, hs2_10, hs2_11, hs2_30, Act.put, Act.eval, q1, q2, q3, q4, q5, q6, q7, q8, q9, q10, q11, q12, q13, q14, q15, q16, q17, q18, Nat.reduceAdd, Bool.not_true, Bool.not_false]
  clear hs2_2 hs2_3 hs2_9 hs2_10 hs2_11 hs2_30
  have hcr := colT_r he2.out
  refine wk_seq ?_
  refine wk_region [0] rfl Kx ?_
  simp only [qy]
  refine rfb_lss rfl rfl rfl rfl ?_
  intro x h3
  cases x
  · (try simp only [qd, ne_eq] at h3)
    simp only [qz]
    refine rg_nil (ek_next (wk_seq (wk_cond_f rfl (wk_exit (ek_then_exit (ek_then_exit (ek_block_exit (ek_next (wk_seq (wk_seq ?_))))))))))
    refine wk_region [0, 0] rfl Kx ?_
    simp only [qy]
    refine rg_move ?_
    simp only [qz]
    refine rfb_neq rfl rfl rfl rfl ?_
    intro x h4
    cases x
    · (try simp only [qd, ne_eq] at h4)
      simp only [qz]
      refine rg_nil (ek_next (wk_cond_f rfl (wk_skip (ek_next (wk_seq ?_)))))
      obtain rfl : N = i := by omega
      obtain rfl : ct = 1 := by omega
      have hcg := colG_end he2.out he3.out rfl
      have hcat : r < N := (colT_at he2.out Ox).1
      refine wk_region [0, 0, 0, 1] rfl Kx ?_
      simp only [qy]
      refine rg_move ?_
      simp only [qz]
      refine rg_move ?_
      simp only [qz]
      refine rf_indexS (n := r) (sz := 1) (j := r) rfl rfl rfl rfl Try.underlying100 Kx Ox Ox Ox ?_
      simp only [qz]
      refine rf_storeB (i := r) (zs := ub) (z := true) rfl rfl Ox (Rep.app _ (Rep.app _ (Rep.here _))) Nz ?_
      simp only [qz]
      refine rg_nil (ek_next ?_)
      refine wk_region [0, 0, 1, 1, 0, 0, 1, 1, 0, 0] rfl Kx ?_
      simp only [qy]
      refine rg_move ?_
      simp only [qz]
      refine rg_move ?_
      simp only [qz]
      refine rg_newS (cs := ?_) (ty := ?_) (n := 1) (c := 1) Rx (fun w => ?_) Nz (fun g4 => ?_); rotate_left 2
      focus (go_simp; rfl)
      simp only [qz]
      refine rg_appZ (xs := pp) (x := (r : Int)) Rx rfl hd3 rfl Ox (perm_atU (l := [_]) (u := u1) (List.Perm.refl _)) Nz (fun uP aNuP cNuP hOuP => ?_)
      simp only [qz]
      refine rg_move ?_
      simp only [qz]
      refine rg_move ?_
      simp only [qz]
      refine rg_newS (cs := ?_) (ty := ?_) (n := 1) (c := 1) Rx (fun w => ?_) Nz (fun g5 => ?_); rotate_left 2
      focus (go_simp; rfl)
      simp only [qz]
      refine rg_appZ (xs := tt) (x := tn) Rx rfl hd4 rfl Ox ((((((List.Perm.refl _).append_left _).trans (List.perm_append_comm_assoc uP u2 _)).cons _).trans (List.perm_middle (l₁ := u2)).symm).trans ((List.Perm.refl _).append_left _)) Nz (fun uT aNuT cNuT hOuT => ?_)
      simp only [qz]
      refine rg_assign ?_
      simp only [qz]
      refine rg_assign ?_
      simp only [qz]
      refine rg_nil (ek_block (ek_next ?_))
      refine wk_region [0, 0] rfl Kx ?_
      simp only [qy]
      refine rf_add rfl rfl rfl rfl (wrap_ok Ox Ox) ?_
      simp only [qz]
      refine rg_move ?_
      simp only [qz]
      refine rg_nil ?_
      have hmn := monS_yes hd2.out hcg
      have hlz := monS_len hmn
      refine ek_perm ((((List.Perm.refl _).append_left _).trans (List.perm_append_comm_assoc uT uP _)).trans ((List.Perm.refl _).append_left _)) ?_
      refine ek_roundF (N - (k + 1)) Ox Kx ?_
      exact ⟨k + 1, pp ++ [(r : Int)], tt ++ [tn], ub.set r true, aNuP, aNuT, cNuP, cNuT, uP, uT, rfl, rfl, rfl, by rfl, by rfl, Ox, (Lib.hid hmn), hOuP, hOuT⟩
    (try simp only [qd, ne_eq] at h4)
    simp only [qz]
    refine rg_nil (ek_next (wk_cond_t rfl (wk_seq ?_)))
    refine wk_region [0, 0, 0, 0] rfl Kx ?_
    simp only [qy]
    refine rg_assign ?_
    simp only [qz]
    refine rg_assign ?_
    simp only [qz]
    refine rg_assign ?_
    simp only [qz]
    refine rg_assign ?_
    simp only [qz]
    refine rg_nil (ek_next (wk_ret (ek_then_ret (ek_block_ret (ek_then_ret (ek_then_ret (ek_block_ret (ek_then_ret ?_))))))))
    refine ek_ret (fun w hw => ⟨rfl, _, res_tttt _ _ _ _ rfl, ?_⟩)
    (try simp only [qz])
    obtain rfl : N = i := by omega
    have hcg := colG_no (ub := ub) he2.out (.inl Ox)
    obtain ⟨e1, e2, e3, e4⟩ := mon_none hv (monS_no hd2.out hcg N Ox)
    rw [e1, e2, e3, e4]
    exact ⟨_, _, [], [], rfl, OwnZ.nil, OwnZ.nil, .nil hw.below⟩
  (try simp only [qd, ne_eq] at h3)
  simp only [qz]
  refine rg_nil (ek_next (wk_seq (wk_cond_t rfl (wk_skip (ek_next (wk_seq (wk_block (wk_seq ?_))))))))
  refine wk_region [0, 0] rfl Kx ?_
  simp only [qy]
  refine rg_move ?_
  simp only [qz]
  refine rg_assign ?_
  simp only [qz]
  refine rg_nil (ek_next (wk_seq (wk_seq ?_)))
  refine wk_region [0, 0, 0, 1, 0, 0] rfl Kx ?_
  simp only [qy]
  refine rf_loadR (n := 2) rfl rfl rfl Try.underlying83 rfl Kx (fun w hw => Kn.hd0 (Kn.tl (Kn.tlU (Kn.tlU hw)))) rfl rfl ?_
  simp only [qz]
  refine rg_move ?_
  simp only [qz]
  refine rg_move ?_
  simp only [qz]
  apply rg_pure Rx Kx
  case hargs => exact Ax
  case h => exact fun w hw => at_any N i k xs a c hlx.out hN Ox Ox w (hA.kn0 hw)
  case hz => exact Nz
  simp only [qz]
  refine rf_build (cs := fun a => #[.int .i64 0, .int .i64 0, .int .i64 0, .int .i64 0, .int .i64 0]) rfl rfl Kx ?_
  simp only [qz]
  refine rfb_eqN (nm xs (i * N + k)) (Nm.zero) rfl rfl rfl rfl ?_
  intro x h5
  cases x
  · (try simp only [qd, ne_eq] at h5)
    simp only [qz]
    refine rg_nil (ek_next (wk_cond_f rfl (wk_skip (ek_next (wk_seq ?_)))))
    refine wk_region [0, 0, 0, 1, 1, 0, 0, 0, 0, 0] rfl Kx ?_
    simp only [qy]
    refine rf_loadR (n := 2) rfl rfl rfl Try.underlying83 rfl Kx (fun w hw => Kn.hd0 (Kn.tl (Kn.tlU (Kn.tlU hw)))) rfl rfl ?_
    simp only [qz]
    refine rg_move ?_
    simp only [qz]
    refine rg_move ?_
    simp only [qz]
    apply rg_pure Rx Kx
    case hargs => exact Ax
    case h => exact fun w hw => at_any N i k xs a c hlx.out hN Ox Ox w (hA.kn0 hw)
    case hz => exact Nz
    simp only [qz]
    apply rg_pure Rx Kx
    case hargs => exact Ax
    case h => exact fun w hw => mturn_any (nm xs (i * N + k)) (ok_at hox (by have := ix_lt (show i < N by omega) (show k < N by omega); have := hlx.out; omega)) w
    case hz => exact Nz
    rcases h6 : tB (nm xs (i * N + k)) with _ | _
    · have htv := tB_no h6
      simp only [qz]
      refine rg_move ?_
      simp only [qz]
      refine rf_extract rfl rfl rfl rfl ?_
      simp only [qz]
      refine rf_extract rfl rfl rfl rfl ?_
      simp only [qz]
      refine rg_assign ?_
      simp only [qz]
      refine rg_assign ?_
      simp only [qz]
      refine rg_nil (ek_next (wk_seq (wk_seq ?_)))
      refine wk_region [0, 0, 0, 0, 0, 0, 0, 0] rfl Kx ?_
      simp only [qy]
      refine rg_move ?_
      simp only [qz]
      refine rf_not rfl rfl rfl ?_
      simp only [qz]
      refine rg_move ?_
      simp only [qz]
      refine rg_skip Rx ?_
      simp only [qz]
      refine rg_skip Rx ?_
      simp only [qz]
      refine rg_skip Rx ?_
      simp only [qz]
      refine rg_skip Rx ?_
      simp only [qz]
      refine rf_pick rfl rfl rfl ?_
      simp only [qz]
      refine rg_nil (ek_next (wk_cond_t rfl (wk_seq ?_)))
      refine wk_region [0, 0, 0, 0] rfl Kx ?_
      simp only [qy]
      refine rg_assign ?_
      simp only [qz]
      refine rg_assign ?_
      simp only [qz]
      refine rg_assign ?_
      simp only [qz]
      refine rg_assign ?_
      simp only [qz]
      refine rg_nil (ek_next (wk_ret (ek_then_ret (ek_block_ret (ek_then_ret (ek_then_ret (ek_block_ret (ek_then_ret (ek_block_ret (ek_then_ret (ek_then_ret (ek_block_ret (ek_then_ret ?_)))))))))))))
      refine ek_ret (fun w hw => ⟨rfl, _, res_tttt _ _ _ _ rfl, ?_⟩)
      (try simp only [qz])
      have hcg := colG_stop (ub := ub) (show i < N by omega) h5 (.inl htv)
      obtain ⟨e1, e2, e3, e4⟩ := mon_none hv (monS_no hd2.out hcg N Ox)
      rw [e1, e2, e3, e4]
      exact ⟨_, _, [], [], rfl, OwnZ.nil, OwnZ.nil, .nil hw.below⟩
    have htv := tB_yes h6
    simp only [qz]
    refine rg_move ?_
    simp only [qz]
    refine rf_extract rfl rfl rfl rfl ?_
    simp only [qz]
    refine rf_extract rfl rfl rfl rfl ?_
    simp only [qz]
    refine rg_assign ?_
    simp only [qz]
    refine rg_assign ?_
    simp only [qz]
    refine rg_nil (ek_next (wk_seq (wk_seq ?_)))
    refine wk_region [0, 0, 0, 0, 0, 0, 0, 0] rfl Kx ?_
    simp only [qy]
    refine rg_move ?_
    simp only [qz]
    refine rf_not rfl rfl rfl ?_
    simp only [qz]
    refine rg_move ?_
    simp only [qz]
    apply rg_soft_g
    case hg => rfl
    case hy => (intro w hw; go_simp; (try go_bits); exact Yld.mk _ _)
    simp only [qz]
    apply rg_soft_g
    case hg => rfl
    case hy => (intro w hw; go_simp; (try go_bits); exact Yld.mk _ _)
    simp only [qz]
    refine rf_indexS (n := i) (sz := 1) (j := i) rfl rfl rfl rfl Try.underlying100 Kx Ox Ox Ox ?_
    simp only [qz]
    refine rf_load rfl rfl rfl Try.underlying4 rfl (fun w hw => boL_cell (Kn.hd0 (Kn.tlU (Kn.tlU hw))) (i := i) Ox) ?_
    rcases h7 : bx ub i with _ | _
    · simp only [Act.put, Act.eval, qn, qv, Nat.reduceAdd]
      refine rf_pick rfl rfl rfl ?_
      simp only [qz]
      refine rg_nil (ek_next (wk_cond_f rfl (wk_skip (ek_next (wk_seq ?_)))))
      refine wk_region [0, 0, 0, 0] rfl Kx ?_
      simp only [qy]
      refine rg_move ?_
      simp only [qz]
      refine rg_move ?_
      simp only [qz]
      refine rg_assign ?_
      simp only [qz]
      refine rg_assign ?_
      simp only [qz]
      refine rg_nil (ek_next ?_)
      refine wk_region [0, 0, 0] rfl Kx ?_
      simp only [qy]
      refine rg_move ?_
      simp only [qz]
      refine rf_add rfl rfl rfl rfl (wrap_ok Ox Ox) ?_
      simp only [qz]
      refine rg_assign ?_
      simp only [qz]
      refine rg_nil (ek_block (ek_next ?_))
      refine wk_region [0, 0] rfl Kx ?_
      simp only [qy]
      refine rf_add rfl rfl rfl rfl (wrap_ok Ox Ox) ?_
      simp only [qz]
      refine rg_move ?_
      simp only [qz]
      refine rg_nil ?_
      refine ek_roundF (N - (i + 1)) Ox Kx ?_
      exact ⟨i + 1, i, ct + 1, tV (nm xs (i * N + k)), rfl, rfl, rfl, rfl, rfl, rfl, by rfl, by rfl, Ox, (Lib.hid (by rw [colT_s he2.out h5, htv.1])), (Lib.hid (fun j hj hz => by rcases (by omega : j < i ∨ j = i) with h | rfl; exact he3.out j h hz; exact ⟨htv.2, h7⟩))⟩
    simp only [Act.put, Act.eval, qn, qv, Nat.reduceAdd]
    refine rf_pick rfl rfl rfl ?_
    simp only [qz]
    refine rg_nil (ek_next (wk_cond_t rfl (wk_seq ?_)))
    refine wk_region [0, 0, 0, 0] rfl Kx ?_
    simp only [qy]
    refine rg_assign ?_
    simp only [qz]
    refine rg_assign ?_
    simp only [qz]
    refine rg_assign ?_
    simp only [qz]
    refine rg_assign ?_
    simp only [qz]
    refine rg_nil (ek_next (wk_ret (ek_then_ret (ek_block_ret (ek_then_ret (ek_then_ret (ek_block_ret (ek_then_ret (ek_block_ret (ek_then_ret (ek_then_ret (ek_block_ret (ek_then_ret ?_)))))))))))))
    refine ek_ret (fun w hw => ⟨rfl, _, res_tttt _ _ _ _ rfl, ?_⟩)
    (try simp only [qz])
    have hcg := colG_stop (ub := ub) (show i < N by omega) h5 (.inr h7)
    obtain ⟨e1, e2, e3, e4⟩ := mon_none hv (monS_no hd2.out hcg N Ox)
    rw [e1, e2, e3, e4]
    exact ⟨_, _, [], [], rfl, OwnZ.nil, OwnZ.nil, .nil hw.below⟩
  (try simp only [qd, ne_eq] at h5)
  simp only [qz]
  refine rg_nil (ek_next (wk_cond_t rfl (wk_exit (ek_then_exit (ek_block_exit (ek_next ?_))))))
  refine wk_region [0, 0] rfl Kx ?_
  simp only [qy]
  refine rf_add rfl rfl rfl rfl (wrap_ok Ox Ox) ?_
  simp only [qz]
  refine rg_move ?_
  simp only [qz]
  refine rg_nil ?_
  refine ek_roundF (N - (i + 1)) Ox Kx ?_
  exact ⟨i + 1, r, ct, tn, rfl, rfl, rfl, rfl, rfl, rfl, by rfl, by rfl, Ox, (Lib.hid (colT_z he2.out h5)), (Lib.hid (fun j hj hz => by rcases (by omega : j < i ∨ j = i) with h | rfl; exact he3.out j h hz; exact absurd h5 hz))⟩

end Go.Proofs.Ytjeijnjaleldkaa
namespace Go.Proofs.Ytjeijnjaleldkaa
set_option linter.all false
open Go.RowKit

set_option maxRecDepth 100000 in
set_option maxHeartbeats 1000000 in
theorem rAt_any (N i k : Nat) (xs : List Nm) (a : Option Addr) (c : Nat) (hl : xs.length = N * N) (hN : N ≤ 6) (hi : i < N) (hk : k < N) (w : World) (hA : AS w a (nms xs)) : Calls Try.prog 41 #[.agg #[.int .i64 N, .slice a xs.length c], .int .i64 i, .int .i64 k] w fun e w' => e = .returned (nmV (nm xs (i * N + k))) ∧ Below w.heap.size w w' := by
  have hm := ix_small hi hN
  have hc0 : ((i * N : Nat) : Int) = (i : Int) * N := Int.natCast_mul i N
  obtain ⟨b, off, rfl, hlt, hcell⟩ := AS.openN hA Ox
  go_enter Try.func41, Try.ntmps41
  refine wk_start ?_
  refine wk_seq ?_
  refine wk_region [1, 1] rfl Kx ?_
  simp only [qy]
  refine Rgn fun g1 => ?_
  simp only [qz]
  refine Rgn fun g2 => ?_
  simp only [qz]
  refine rg_nil (ek_next (wk_seq ?_))
  refine wk_region [0, 0, 0, 0, 0, 0, 0, 0, 0, 0, 1] rfl Kx ?_
  simp only [qy]
  refine rf_field (n := 0) (j := 1) rfl rfl rfl Try.underlying24 rfl Kx rfl ?_
  simp only [qz]
  refine rf_load rfl rfl rfl Try.underlying22 rfl (fun w hw => (Kn.hd0 (Kn.tl hw)).at rfl) ?_
  simp only [qz]
  refine rg_move ?_
  simp only [qz]
  refine rf_field (n := 0) (j := 0) rfl rfl rfl Try.underlying24 rfl Kx rfl ?_
  simp only [qz]
  refine rf_load rfl rfl rfl Try.underlying3 rfl (fun w hw => (Kn.hd0 (Kn.tl hw)).at rfl) ?_
  simp only [qz]
  refine rf_mul rfl rfl rfl rfl (wrap_ok Ox Ox) ?_
  simp only [qz]
  refine rg_move ?_
  simp only [qz]
  refine rf_add rfl rfl rfl rfl (wrap_ok Ox Ox) ?_
  simp only [qz]
  refine rf_indexS (n := i * N + k) (sz := 5) (j := off + (i * N + k) * 5) rfl rfl rfl rfl Try.underlying22 Kx (by rw [Int.natCast_add, Int.natCast_mul]) Ox rfl ?_
  simp only [qz]
  refine rf_loadC (n := 5) (vs := nmC (nm xs (i * N + k))) rfl rfl rfl Try.underlying29 rfl Kx rfl (fun w hw => atN_range ((hcell _ Ox).kn hw hlt (by simp))) ?_
  simp only [qz]
  refine rf_storeR (n := 5) rfl rfl Kx rfl rfl (UpdR.here _ _ _ Nl) Nz ?_
  simp only [qz, Nat.reduceAdd]
  refine rg_nil (ek_next (wk_ret ?_))
  refine ek_ret (fun w hw => ⟨rfl, _, run_results1 rfl rfl (Kn.hd0 hw) Try.underlying29 rfl Kx, ?_⟩)
  (try simp only [qz])
  first | exact ⟨rfl, hw.below⟩ | exact ⟨trivial, hw.below⟩ | exact hw.below

set_option maxRecDepth 100000 in
set_option maxHeartbeats 1000000 in
theorem rOne_any  (w : World) : Calls Try.prog 61 #[] w fun e w' => e = .returned (nmV Nm.one) ∧ Below w.heap.size w w' := by
  go_enter Try.func61, Try.ntmps61
  refine wk_start ?_
  refine wk_seq ?_
  refine wk_region [1] rfl Kx ?_
  simp only [qy]
  refine Rgn fun g1 => ?_
  simp only [qz]
  refine rg_nil (ek_next (wk_seq ?_))
  refine wk_region [0, 0, 1] rfl Kx ?_
  simp only [qy]
  refine rf_build (cs := fun a => #[a.eval (.const (.int .i64 1)), .int .i64 0, .int .i64 0, .int .i64 0]) rfl rfl Kx ?_
  simp only [qz]
  refine rf_build (cs := fun a => #[cellAt (a.eval (.tmp 1)) 0, cellAt (a.eval (.tmp 1)) 1, cellAt (a.eval (.tmp 1)) 2, cellAt (a.eval (.tmp 1)) 3, .int .i64 0]) rfl rfl Kx ?_
  simp only [qz]
  refine rf_storeR (n := 5) rfl rfl Kx rfl rfl (UpdR.here _ _ _ Nl) Nz ?_
  simp only [qz, Nat.reduceAdd]
  refine rg_nil (ek_next (wk_ret ?_))
  refine ek_ret (fun w hw => ⟨rfl, _, run_results1 rfl rfl (Kn.hd0 hw) Try.underlying29 rfl Kx, ?_⟩)
  (try simp only [qz])
  first | exact ⟨rfl, hw.below⟩ | exact ⟨trivial, hw.below⟩ | exact hw.below

end Go.Proofs.Ytjeijnjaleldkaa
namespace Go.Proofs.Ytjeijnjaleldkaa
set_option linter.all false
open Go.RowKit

set_option maxRecDepth 100000 in
set_option maxHeartbeats 1000000 in
theorem rmonomial_any (n : Int) (xs : List Nm) (a : Option Addr) (c : Nat) (hl : xs.length ≤ 1000000) (w : World) (hA : AS w a (nms xs)) : Calls Try.prog 34 #[.agg #[.int .i64 n, .slice a xs.length c]] w fun e w' => RetMo w (monP n xs) (monU n xs) (monB n xs) (monE n xs) e w' := by
  go_enter Try.func34, Try.ntmps34
  refine wk_start ?_
  refine wk_seq ?_
  refine wk_region [1, 0, 0, 0, 0] rfl Kx ?_
  simp only [qy]
  refine Rgn fun g1 => ?_
  simp only [qz]
  refine rg_assign ?_
  simp only [qz]
  refine rg_assign ?_
  simp only [qz]
  refine rg_assign ?_
  simp only [qz]
  refine rg_assign ?_
  simp only [qz]
  refine rg_nil (ek_next (wk_seq (wk_seq ?_)))
  refine wk_region [0, 1, 0] rfl Kx ?_
  simp only [qy]
  refine rf_loadR (n := 2) rfl rfl rfl Try.underlying24 rfl Kx (fun w hw => Kn.hd0 hw) rfl rfl ?_
  simp only [qz]
  apply rg_pureb Rx Kx
  case hargs => exact Ax
  case h => exact fun w hw => rmvalid_any n xs a c hl w (hA.kn0 hw)
  case hz => exact Nz
  intro x h1
  cases x
  · (try simp only [qd, ne_eq] at h1)
    simp only [qz]
    refine rf_not rfl rfl rfl ?_
    simp only [qz]
    refine rg_nil (ek_next (wk_cond_t rfl (wk_seq ?_)))
    refine wk_region [0, 0, 0, 0] rfl Kx ?_
    simp only [qy]
    refine rg_assign ?_
    simp only [qz]
    refine rg_assign ?_
    simp only [qz]
    refine rg_assign ?_
    simp only [qz]
    refine rg_assign ?_
    simp only [qz]
    refine rg_nil (ek_next (wk_ret (ek_then_ret ?_)))
    refine ek_ret (fun w hw => ⟨rfl, _, res_tttt _ _ _ _ rfl, ?_⟩)
    (try simp only [qz])
    obtain ⟨e1, e2, e3, e4⟩ := mon_bad h1
    rw [e1, e2, e3, e4]
    exact ⟨_, _, [], [], rfl, OwnZ.nil, OwnZ.nil, .nil hw.below⟩
  (try simp only [qd, ne_eq] at h1)
  simp only [qz]
  have hv := h1
  obtain ⟨N, rfl, hN1, hN, hlx, hlx36, hox⟩ := validB_N' hv
  replace hlx := Lib.hid hlx
  refine rf_not rfl rfl rfl ?_
  simp only [qz]
  refine rg_nil (ek_next (wk_cond_f rfl (wk_skip (ek_next (wk_seq ?_)))))
  refine wk_region [0, 0, 1, 0] rfl Kx ?_
  simp only [qy]
  refine rf_field (n := 0) (j := 0) rfl rfl rfl Try.underlying24 rfl Kx rfl ?_
  simp only [qz]
  refine rf_load rfl rfl rfl Try.underlying3 rfl (fun w hw => (Kn.hd0 hw).at rfl) ?_
  simp only [qz]
  refine rg_makeB (n := N) Rx rfl rfl Ox Nz (fun g2 => ?_)
  simp only [qz]
  refine rg_assign ?_
  simp only [qz]
  refine rg_nil (ek_next (wk_seq (wk_seq ?_)))
  refine wk_region [0] rfl Kx ?_
  simp only [qy]
  refine rg_assign ?_
  simp only [qz]
  refine rg_nil (ek_next (wk_block ?_))
  refine wk_loopF [2, 3, 4, 5, 7, 8, 9, 10, 11, 12, 19, 20, 21, 22, 23, 24, 25, 26, 27, 28, 29, 30, 31, 32, 33, 34, 35, 36, 37, 38, 39, 40, 41, 42, 43, 44, 45, 46, 47, 48, 49, 50, 51, 52, 53, 54, 55, 56, 57, 58, 59, 60, 61, 62, 63, 64, 65, 66, 67, 68, 69, 70, 71, 72, 73, 74, 75] (fun mz f s => ∃ (k : Nat) (pp tt : List Int) (ub : List Bool) (va vb : Option Addr) (vc vd : Nat) (u1 u2 : List Blk), f 2 = .slice va pp.length vc ∧ f 3 = .slice vb tt.length vd ∧ f 7 = .int .i64 k ∧ s = (u1 ++ (u2 ++ ((g2, .cells (boL ub).toArray 4) :: ((g1, .cells #[.int .i64 N, .slice a xs.length c] 24) :: [])))) ∧ mz = N - k ∧ k ≤ N ∧ Hid (monS xs N k = some (pp, tt, ub)) ∧ OwnZ u1 (.slice va pp.length vc) pp ∧ OwnZ u2 (.slice vb tt.length vd) tt) ((fun (k : Nat) (pp tt : List Int) (ub : List Bool) (va vb : Option Addr) (vc vd : Nat) (u1 u2 : List Blk) => N - k) (0) ([]) ([]) (List.replicate N false) (none) (none) (0) (0) ([]) ([])) ?_ Kx ?_
  · exact ⟨0, [], [], List.replicate N false, none, none, 0, 0, [], [], rfl, rfl, rfl, rfl, rfl, by omega, Lib.hid rfl, OwnZ.nil, OwnZ.nil⟩
  rintro mz f1 s ⟨k, pp, tt, ub, va, vb, vc, vd, u1, u2, hs1_2, hs1_3, hs1_7, rfl, hn, hd1, hd2, hd3, hd4⟩
  simp only [Act.putF, List.foldl_cons, List.foldl_nil, hs1_2, hs1_3, hs1_7, Act.put, Act.eval, q1, q2, q3, q4, q5, q6, q7, q8, q9, q10, q11, q12, q13, q14, q15, q16, q17, q18, Nat.reduceAdd, Bool.not_true, Bool.not_false]
  clear hs1_2 hs1_3 hs1_7
  obtain ⟨hlp, hlt, hlu⟩ := monS_len hd2.out
  refine wk_seq (wk_seq ?_)
  refine wk_region [0, 0, 0, 0] rfl Kx ?_
  simp only [qy]
  refine rg_move ?_
  simp only [qz]
  refine rf_field (n := 0) (j := 0) rfl rfl rfl Try.underlying24 rfl Kx rfl ?_
  simp only [qz]
  refine rf_load rfl rfl rfl Try.underlying3 rfl (fun w hw => (Kn.hd0 (Kn.tl (Kn.tlU (Kn.tlU hw)))).at rfl) ?_
  simp only [qz]
  refine rfb_lss rfl rfl rfl rfl ?_
  intro x h2
  cases x
  · (try simp only [qd, ne_eq] at h2)
    simp only [qz]
    refine rg_nil (ek_next (wk_cond_f rfl (wk_exit (ek_then_exit (ek_then_exit (ek_block_exit (ek_next (wk_seq ?_))))))))
    refine wk_region [0, 0, 0, 0, 0, 0] rfl Kx ?_
    simp only [qy]
    refine rg_move ?_
    simp only [qz]
    refine rg_move ?_
    simp only [qz]
    refine rg_assign ?_
    simp only [qz]
    refine rg_assign ?_
    simp only [qz]
    refine rg_assign ?_
    simp only [qz]
    refine rg_assign ?_
    simp only [qz]
    refine rg_nil (ek_next (wk_ret ?_))
    refine ek_ret (fun w hw => ⟨rfl, _, res_tttt _ _ _ _ rfl, ?_⟩)
    (try simp only [qz])
    obtain rfl : N = k := by omega
    obtain ⟨e1, e2, e3, e4⟩ := mon_yes hv hd2.out
    rw [e1, e2, e3, e4]
    exact ⟨_, _, u1, u2, rfl, hd3, hd4, hw.made (List.Sublist.append_left (List.sublist_append_left _ _) _)⟩
  (try simp only [qd, ne_eq] at h2)
  simp only [qz]
  refine rg_nil (ek_next (wk_cond_t rfl (wk_skip (ek_next (wk_seq (wk_block (wk_seq ?_)))))))
  refine wk_region [0, 0, 0] rfl Kx ?_
  simp only [qy]
  refine rg_assign ?_
  simp only [qz]
  refine rg_assign ?_
  simp only [qz]
  refine rg_assign ?_
  simp only [qz]
  refine rg_nil (ek_next (wk_seq (wk_seq ?_)))
  refine wk_region [0] rfl Kx ?_
  simp only [qy]
  refine rg_assign ?_
  simp only [qz]
  refine rg_nil (ek_next (wk_block ?_))
  refine wk_loopF [8, 9, 10, 11, 12, 25, 26, 27, 28, 29, 30, 31, 32, 33, 34, 35, 36, 37, 38, 39, 40, 41, 42, 43, 44, 45, 46, 47, 48, 49, 50, 51, 52] (fun mz f s => ∃ (i r ct : Nat) (tn : Int), f 8 = .int .i64 r ∧ f 9 = .int .i64 tn ∧ f 10 = .int .i64 ct ∧ f 11 = .int .i64 i ∧ s = (u1 ++ (u2 ++ ((g2, .cells (boL ub).toArray 4) :: ((g1, .cells #[.int .i64 N, .slice a xs.length c] 24) :: [])))) ∧ mz = N - i ∧ i ≤ N ∧ Hid (colT xs N k i = (r, tn, ct))) ((fun (i r ct : Nat) (tn : Int) => N - i) (0) (0) (0) (0)) ?_ Kx ?_
  · exact ⟨0, 0, 0, 0, rfl, rfl, rfl, rfl, rfl, rfl, by omega, Lib.hid rfl⟩
  rintro mz f2 s ⟨i, r, ct, tn, hs2_8, hs2_9, hs2_10, hs2_11, rfl, hn, he1, he2⟩
  simp only [Act.putF, List.foldl_cons, List.foldl_nil, hs2_8, hs2_9, hs2_10, hs2_11, Act.put, Act.eval, q1, q2, q3, q4, q5, q6, q7, q8, q9, q10, q11, q12, q13, q14, q15, q16, q17, q18, Nat.reduceAdd, Bool.not_true, Bool.not_false]
  clear hs2_8 hs2_9 hs2_10 hs2_11
  have hcr := colT_r he2.out
  refine wk_seq (wk_seq ?_)
  refine wk_region [0, 0, 0, 0] rfl Kx ?_
  simp only [qy]
  refine rg_move ?_
  simp only [qz]
  refine rf_field (n := 0) (j := 0) rfl rfl rfl Try.underlying24 rfl Kx rfl ?_
  simp only [qz]
  refine rf_load rfl rfl rfl Try.underlying3 rfl (fun w hw => (Kn.hd0 (Kn.tl (Kn.tlU (Kn.tlU hw)))).at rfl) ?_
  simp only [qz]
  refine rfb_lss rfl rfl rfl rfl ?_
  intro x h3
  cases x
  · (try simp only [qd, ne_eq] at h3)
    simp only [qz]
    refine rg_nil (ek_next (wk_cond_f rfl (wk_exit (ek_then_exit (ek_then_exit (ek_block_exit (ek_next (wk_seq (wk_seq ?_)))))))))
    obtain rfl : N = i := by omega
    refine wk_region [0, 0, 0, 0, 0, 0, 0, 0, 0, 0, 0, 0] rfl Kx ?_
    simp only [qy]
    refine rg_move ?_
    simp only [qz]
    refine rfb_neq rfl rfl rfl rfl ?_
    intro x h4
    cases x
    · (try simp only [qd, ne_eq] at h4)
      simp only [qz]
      have hct : ct = 1 := by omega
      have hcat : r < N := (colT_at he2.out Ox).1
      refine rg_move ?_
      simp only [qz]
      apply rg_soft_g
      case hg => rfl
      case hy => (intro w hw; go_simp; (try go_bits); exact Yld.mk _ _)
      simp only [qz]
      refine rfb_lss rfl rfl rfl rfl ?_
      intro x h5
      cases x
      · (try simp only [qd, ne_eq] at h5)
        simp only [qz]
        refine rf_pick rfl rfl rfl ?_
        simp only [qz]
        refine rg_move ?_
        simp only [qz]
        apply rg_soft_g
        case hg => rfl
        case hy => (intro w hw; go_simp; (try go_bits); exact Yld.mk _ _)
        simp only [qz]
        apply rg_soft_g
        case hg => rfl
        case hy => (intro w hw; go_simp; (try go_bits); exact Yld.mk _ _)
        simp only [qz]
        refine rf_indexS (n := r) (sz := 1) (j := r) rfl rfl rfl rfl Try.underlying100 Kx Ox Ox Ox ?_
        simp only [qz]
        refine rf_load rfl rfl rfl Try.underlying4 rfl (fun w hw => boL_cell (Kn.hd0 (Kn.tlU (Kn.tlU hw))) (i := r) Ox) ?_
        rcases h6 : bx ub r with _ | _
        · simp only [Act.put, Act.eval, qn, qv, Nat.reduceAdd]
          refine rf_pick rfl rfl rfl ?_
          simp only [qz]
          refine rg_nil (ek_next (wk_cond_f rfl (wk_skip (ek_next (wk_seq ?_)))))
          have hcg := colG_yes he2.out hct Ox h6
          refine wk_region [0, 0, 0, 1] rfl Kx ?_
          simp only [qy]
          refine rg_move ?_
          simp only [qz]
          refine rg_move ?_
          simp only [qz]
          refine rf_indexS (n := r) (sz := 1) (j := r) rfl rfl rfl rfl Try.underlying100 Kx Ox Ox Ox ?_
          simp only [qz]
          refine rf_storeB (i := r) (zs := ub) (z := true) rfl rfl Ox (Rep.app _ (Rep.app _ (Rep.here _))) Nz ?_
          simp only [qz]
          refine rg_nil (ek_next ?_)
          refine wk_region [0, 0, 1, 1, 0, 0, 1, 1, 0, 0] rfl Kx ?_
          simp only [qy]
          refine rg_move ?_
          simp only [qz]
          refine rg_move ?_
          simp only [qz]
          refine rg_newS (cs := ?_) (ty := ?_) (n := 1) (c := 1) Rx (fun w => ?_) Nz (fun g3 => ?_); rotate_left 2
          focus (go_simp; rfl)
          simp only [qz]
          refine rg_appZ (xs := pp) (x := (r : Int)) Rx rfl hd3 rfl Ox (perm_atU (l := [_]) (u := u1) (List.Perm.refl _)) Nz (fun uP aNuP cNuP hOuP => ?_)
          simp only [qz]
          refine rg_move ?_
          simp only [qz]
          refine rg_move ?_
          simp only [qz]
          refine rg_newS (cs := ?_) (ty := ?_) (n := 1) (c := 1) Rx (fun w => ?_) Nz (fun g4 => ?_); rotate_left 2
          focus (go_simp; rfl)
          simp only [qz]
          refine rg_appZ (xs := tt) (x := tn) Rx rfl hd4 rfl Ox ((((((List.Perm.refl _).append_left _).trans (List.perm_append_comm_assoc uP u2 _)).cons _).trans (List.perm_middle (l₁ := u2)).symm).trans ((List.Perm.refl _).append_left _)) Nz (fun uT aNuT cNuT hOuT => ?_)
          simp only [qz]
          refine rg_assign ?_
          simp only [qz]
          refine rg_assign ?_
          simp only [qz]
          refine rg_nil (ek_block (ek_next ?_))
          refine wk_region [0, 0, 0] rfl Kx ?_
          simp only [qy]
          refine rg_move ?_
          simp only [qz]
          refine rf_add rfl rfl rfl rfl (wrap_ok Ox Ox) ?_
          simp only [qz]
          refine rg_assign ?_
          simp only [qz]
          refine rg_nil ?_
          have hmn := monS_yes hd2.out hcg
          have hlz := monS_len hmn
          refine ek_perm ((((List.Perm.refl _).append_left _).trans (List.perm_append_comm_assoc uT uP _)).trans ((List.Perm.refl _).append_left _)) ?_
          refine ek_roundF (N - (k + 1)) Ox Kx ?_
          exact ⟨k + 1, pp ++ [(r : Int)], tt ++ [tn], ub.set r true, aNuP, aNuT, cNuP, cNuT, uP, uT, rfl, rfl, rfl, by rfl, by rfl, Ox, (Lib.hid hmn), hOuP, hOuT⟩
        simp only [Act.put, Act.eval, qn, qv, Nat.reduceAdd]
        refine rf_pick rfl rfl rfl ?_
        simp only [qz]
        refine rg_nil (ek_next (wk_cond_t rfl (wk_seq ?_)))
        refine wk_region [0, 0, 0, 0] rfl Kx ?_
        simp only [qy]
        refine rg_assign ?_
        simp only [qz]
        refine rg_assign ?_
        simp only [qz]
        refine rg_assign ?_
        simp only [qz]
        refine rg_assign ?_
        simp only [qz]
        refine rg_nil (ek_next (wk_ret (ek_then_ret (ek_block_ret (ek_then_ret (ek_then_ret (ek_block_ret (ek_then_ret ?_))))))))
        refine ek_ret (fun w hw => ⟨rfl, _, res_tttt _ _ _ _ rfl, ?_⟩)
        (try simp only [qz])
        have hcg := colG_no (ub := ub) he2.out (.inr (.inr h6))
        obtain ⟨e1, e2, e3, e4⟩ := mon_none hv (monS_no hd2.out hcg N Ox)
        rw [e1, e2, e3, e4]
        exact ⟨_, _, [], [], rfl, OwnZ.nil, OwnZ.nil, .nil hw.below⟩
      (try simp only [qd, ne_eq] at h5)
      simp only [qz]
      refine rf_pick rfl rfl rfl ?_
      simp only [qz]
      refine rg_move ?_
      simp only [qz]
      refine rg_skip Rx ?_
      simp only [qz]
      refine rg_skip Rx ?_
      simp only [qz]
      refine rg_skip Rx ?_
      simp only [qz]
      refine rg_skip Rx ?_
      simp only [qz]
      refine rf_pick rfl rfl rfl ?_
      simp only [qz]
      refine rg_nil (ek_next (wk_cond_t rfl (wk_seq ?_)))
      refine wk_region [0, 0, 0, 0] rfl Kx ?_
      simp only [qy]
      refine rg_assign ?_
      simp only [qz]
      refine rg_assign ?_
      simp only [qz]
      refine rg_assign ?_
      simp only [qz]
      refine rg_assign ?_
      simp only [qz]
      refine rg_nil (ek_next (wk_ret (ek_then_ret (ek_block_ret (ek_then_ret (ek_then_ret (ek_block_ret (ek_then_ret ?_))))))))
      refine ek_ret (fun w hw => ⟨rfl, _, res_tttt _ _ _ _ rfl, ?_⟩)
      (try simp only [qz])
      have hcg := colG_no (ub := ub) he2.out (.inr (.inl Ox))
      obtain ⟨e1, e2, e3, e4⟩ := mon_none hv (monS_no hd2.out hcg N Ox)
      rw [e1, e2, e3, e4]
      exact ⟨_, _, [], [], rfl, OwnZ.nil, OwnZ.nil, .nil hw.below⟩
    (try simp only [qd, ne_eq] at h4)
    simp only [qz]
    refine rg_move ?_
    simp only [qz]
    refine rg_skip Rx ?_
    simp only [qz]
    refine rg_skip Rx ?_
    simp only [qz]
    refine rf_pick rfl rfl rfl ?_
    simp only [qz]
    refine rg_move ?_
    simp only [qz]
    refine rg_skip Rx ?_
    simp only [qz]
    refine rg_skip Rx ?_
    simp only [qz]
    refine rg_skip Rx ?_
    simp only [qz]
    refine rg_skip Rx ?_
    simp only [qz]
    refine rf_pick rfl rfl rfl ?_
    simp only [qz]
    refine rg_nil (ek_next (wk_cond_t rfl (wk_seq ?_)))
    refine wk_region [0, 0, 0, 0] rfl Kx ?_
    simp only [qy]
    refine rg_assign ?_
    simp only [qz]
    refine rg_assign ?_
    simp only [qz]
    refine rg_assign ?_
    simp only [qz]
    refine rg_assign ?_
    simp only [qz]
    refine rg_nil (ek_next (wk_ret (ek_then_ret (ek_block_ret (ek_then_ret (ek_then_ret (ek_block_ret (ek_then_ret ?_))))))))
    refine ek_ret (fun w hw => ⟨rfl, _, res_tttt _ _ _ _ rfl, ?_⟩)
    (try simp only [qz])
    have hcg := colG_no (ub := ub) he2.out (.inl Ox)
    obtain ⟨e1, e2, e3, e4⟩ := mon_none hv (monS_no hd2.out hcg N Ox)
    rw [e1, e2, e3, e4]
    exact ⟨_, _, [], [], rfl, OwnZ.nil, OwnZ.nil, .nil hw.below⟩
  (try simp only [qd, ne_eq] at h3)
  simp only [qz]
  refine rg_nil (ek_next (wk_cond_t rfl (wk_skip (ek_next (wk_seq (wk_block (wk_seq (wk_seq ?_))))))))
  refine wk_region [0, 0, 0, 1, 0, 0] rfl Kx ?_
  simp only [qy]
  refine rf_loadR (n := 2) rfl rfl rfl Try.underlying24 rfl Kx (fun w hw => Kn.hd0 (Kn.tl (Kn.tlU (Kn.tlU hw)))) rfl rfl ?_
  simp only [qz]
  refine rg_move ?_
  simp only [qz]
  refine rg_move ?_
  simp only [qz]
  apply rg_pure Rx Kx
  case hargs => exact Ax
  case h => exact fun w hw => rAt_any N i k xs a c hlx.out hN Ox Ox w (hA.kn0 hw)
  case hz => exact Nz
  simp only [qz]
  refine rf_build (cs := fun a => #[.int .i64 0, .int .i64 0, .int .i64 0, .int .i64 0, .int .i64 0]) rfl rfl Kx ?_
  simp only [qz]
  refine rfb_eqN (nm xs (i * N + k)) (Nm.zero) rfl rfl rfl rfl ?_
  intro x h7
  cases x
  · (try simp only [qd, ne_eq] at h7)
    simp only [qz]
    refine rg_nil (ek_next (wk_cond_f rfl (wk_skip (ek_next (wk_seq ?_)))))
    refine wk_region [0, 0, 0] rfl Kx ?_
    simp only [qy]
    refine rg_move ?_
    simp only [qz]
    refine rf_add rfl rfl rfl rfl (wrap_ok Ox Ox) ?_
    simp only [qz]
    refine rg_assign ?_
    simp only [qz]
    refine rg_nil (ek_next (wk_seq ?_))
    refine wk_region [0, 0, 0] rfl Kx ?_
    simp only [qy]
    refine rg_move ?_
    simp only [qz]
    refine rg_assign ?_
    simp only [qz]
    refine rg_assign ?_
    simp only [qz]
    refine rg_nil (ek_next (wk_seq ?_))
    refine wk_region [0] rfl Kx ?_
    simp only [qy]
    refine rg_assign ?_
    simp only [qz]
    refine rg_nil (ek_next (wk_block ?_))
    refine wk_loopF [9, 12, 40, 41, 42, 43, 44, 45, 46, 47, 48, 49, 50, 51, 52] (fun mz f s => ∃ (m : Nat) (v : Int), f 9 = .int .i64 v ∧ f 12 = .int .i64 m ∧ s = (u1 ++ (u2 ++ ((g2, .cells (boL ub).toArray 4) :: ((g1, .cells #[.int .i64 N, .slice a xs.length c] 24) :: [])))) ∧ mz = 8 - m ∧ m ≤ 8 ∧ Hid (tK (nm xs (i * N + k)) m = v)) ((fun (m : Nat) (v : Int) => 8 - m) (0) ((-1))) ?_ Kx ?_
    · exact ⟨0, (-1), rfl, rfl, rfl, rfl, by omega, Lib.hid (tK_zero _)⟩
    rintro mz f3 s ⟨m, v, hs3_9, hs3_12, rfl, hn, hg1, hg2⟩
    simp only [Act.putF, List.foldl_cons, List.foldl_nil, hs3_9, hs3_12, Act.put, Act.eval, q1, q2, q3, q4, q5, q6, q7, q8, q9, q10, q11, q12, q13, q14, q15, q16, q17, q18, Nat.reduceAdd, Bool.not_true, Bool.not_false]
    clear hs3_9 hs3_12
    refine wk_seq (wk_seq ?_)
    refine wk_region [0, 0] rfl Kx ?_
    simp only [qy]
    refine rg_move ?_
    simp only [qz]
    refine rfb_lss rfl rfl rfl rfl ?_
    intro x h8
    cases x
    · (try simp only [qd, ne_eq] at h8)
      simp only [qz]
      refine rg_nil (ek_next (wk_cond_f rfl (wk_exit (ek_then_exit (ek_then_exit (ek_block_exit (ek_block (ek_next ?_))))))))
      refine wk_region [0, 0, 0] rfl Kx ?_
      simp only [qy]
      refine rg_move ?_
      simp only [qz]
      refine rf_add rfl rfl rfl rfl (wrap_ok Ox Ox) ?_
      simp only [qz]
      refine rg_assign ?_
      simp only [qz]
      refine rg_nil ?_
      obtain rfl : m = 8 := by omega
      refine ek_roundF (N - (i + 1)) Ox Kx ?_
      exact ⟨i + 1, i, ct + 1, v, rfl, rfl, rfl, rfl, by rfl, by rfl, Ox, (Lib.hid (by rw [colT_s he2.out h7, ← tK_8, hg2.out]))⟩
    (try simp only [qd, ne_eq] at h8)
    simp only [qz]
    refine rg_nil (ek_next (wk_cond_t rfl (wk_skip (ek_next (wk_seq (wk_block (wk_seq ?_)))))))
    refine wk_region [0, 0, 0, 1, 1, 0, 1, 0] rfl Kx ?_
    simp only [qy]
    refine rf_loadR (n := 2) rfl rfl rfl Try.underlying24 rfl Kx (fun w hw => Kn.hd0 (Kn.tl (Kn.tlU (Kn.tlU hw)))) rfl rfl ?_
    simp only [qz]
    refine rg_move ?_
    simp only [qz]
    refine rg_move ?_
    simp only [qz]
    apply rg_pure Rx Kx
    case hargs => exact Ax
    case h => exact fun w hw => rAt_any N i k xs a c hlx.out hN Ox Ox w (hA.kn0 hw)
    case hz => exact Nz
    simp only [qz]
    apply rg_pure Rx Kx
    case hargs => exact Ax
    case h => exact fun w hw => rOne_any w
    case hz => exact Nz
    simp only [qz]
    refine rg_move ?_
    simp only [qz]
    apply rg_pure Rx Kx
    case hargs => exact Ax
    case h => exact fun w hw => rTurned_any Nm.one m one_ok Ox w
    case hz => exact Nz
    simp only [qz]
    refine rfb_eqN (nm xs (i * N + k)) (Nm.turn m Nm.one) rfl rfl rfl rfl ?_
    intro x h9
    cases x
    · (try simp only [qd, ne_eq] at h9)
      simp only [qz]
      refine rg_nil (ek_next (wk_cond_f rfl (wk_skip (ek_block (ek_next ?_)))))
      refine wk_region [0, 0, 0] rfl Kx ?_
      simp only [qy]
      refine rg_move ?_
      simp only [qz]
      refine rf_add rfl rfl rfl rfl (wrap_ok Ox Ox) ?_
      simp only [qz]
      refine rg_assign ?_
      simp only [qz]
      refine rg_nil ?_
      refine ek_roundF (8 - (m + 1)) Ox Kx ?_
      exact ⟨m + 1, v, rfl, rfl, by rfl, by rfl, Ox, (Lib.hid ((tK_no Ox h9).trans hg2.out))⟩
    (try simp only [qd, ne_eq] at h9)
    simp only [qz]
    refine rg_nil (ek_next (wk_cond_t rfl ?_))
    refine wk_region [0, 0] rfl Kx ?_
    simp only [qy]
    refine rg_move ?_
    simp only [qz]
    refine rg_assign ?_
    simp only [qz]
    refine rg_nil (ek_block (ek_next ?_))
    refine wk_region [0, 0, 0] rfl Kx ?_
    simp only [qy]
    refine rg_move ?_
    simp only [qz]
    refine rf_add rfl rfl rfl rfl (wrap_ok Ox Ox) ?_
    simp only [qz]
    refine rg_assign ?_
    simp only [qz]
    refine rg_nil ?_
    refine ek_roundF (8 - (m + 1)) Ox Kx ?_
    exact ⟨m + 1, (m : Int), rfl, rfl, by rfl, by rfl, Ox, (Lib.hid (tK_yes Ox h9))⟩
  (try simp only [qd, ne_eq] at h7)
  simp only [qz]
  refine rg_nil (ek_next (wk_cond_t rfl (wk_exit (ek_then_exit (ek_block_exit (ek_next ?_))))))
  refine wk_region [0, 0, 0] rfl Kx ?_
  simp only [qy]
  refine rg_move ?_
  simp only [qz]
  refine rf_add rfl rfl rfl rfl (wrap_ok Ox Ox) ?_
  simp only [qz]
  refine rg_assign ?_
  simp only [qz]
  refine rg_nil ?_
  refine ek_roundF (N - (i + 1)) Ox Kx ?_
  exact ⟨i + 1, r, ct, tn, rfl, rfl, rfl, rfl, by rfl, by rfl, Ox, (Lib.hid (colT_z he2.out h7))⟩

end Go.Proofs.Ytjeijnjaleldkaa
namespace Go.Proofs.Ytjeijnjaleldkaa
set_option linter.all false
open Go.RowKit

theorem nm_fl (xs : List Nm) (k : Nat) (y : Nm) (hk : k < xs.length) : setMany (NmE.flat xs ++ []).toArray (0 + k * 5) (nmC y) = (NmE.flat (xs.set k y) ++ []).toArray := fl_set (E := NmE) (rest := []) hk
theorem nm_sz (xs : List Nm) (k : Nat) (y : Nm) (hk : k < xs.length) : 0 + k * 5 + (nmC y).length ≤ (NmE.flat xs ++ []).toArray.size := fl_size (E := NmE) (rest := []) (y := y) hk
theorem fill_set (l : List Nm) (m k : Nat) (z : Nm) (h : l.length = k) : (l ++ List.replicate (m + 1) Nm.zero).set k z = (l ++ [z]) ++ List.replicate m Nm.zero := by
  subst h
  rw [List.set_append_right _ _ (Nat.le_refl _), Nat.sub_self, List.replicate_succ, List.set_cons_zero, List.append_assoc]
  rfl
theorem ownN_fl {g n : Nat} {l : List Nm} (h : l.length = n) (hn : n ≤ 100000) : OwnN [(g, .cells (NmE.flat l ++ []).toArray 29)] (.slice (some ⟨g, 0, none⟩) n n) l := by
  subst h
  have e : (NmE.flat l ++ []).toArray.toList = NmE.flat l := by simp
  have := Own.whole (e := 29) (size := 5) (g := g) (n := l.length) (cur := (NmE.flat l ++ []).toArray) (by simp [El.flat_len]) (by simp only [maxLen]; omega)
  rwa [e] at this
theorem madeN (n : Nat) : madeCells #[.int .i64 0, .int .i64 0, .int .i64 0, .int .i64 0, .int .i64 0] (n * 5) = (NmE.flat (List.replicate n Nm.zero) ++ []).toArray := by
  rw [List.append_nil, ← made_fl (E := NmE) Nm.zero n]
  rfl
set_option maxRecDepth 100000 in
set_option maxHeartbeats 1000000 in
theorem zeros_any (N : Nat) (hN : N ≤ 6) (w : World) : Calls Try.prog 72 #[.int .i64 (N : Int)] w fun e w' => ∃ g, e = .returned (.agg #[.int .i64 N, .slice (some ⟨g, 0, none⟩) (N * N) (N * N)]) ∧ Made w [(g, .cells (NmE.flat (List.replicate (N * N) Nm.zero) ++ []).toArray 29)] w' := by
  have hN2 := Nat.mul_le_mul hN hN
  go_enter Try.func72, Try.ntmps72
  refine wk_start ?_
  refine wk_seq ?_
  refine wk_region [1] rfl Kx ?_
  simp only [qy]
  refine Rgn fun g1 => ?_
  simp only [qz]
  refine rg_nil (ek_next (wk_seq ?_))
  refine wk_region [0, 0, 0, 0, 1, 0, 1] rfl Kx ?_
  simp only [qy]
  refine rg_move ?_
  simp only [qz]
  refine rg_move ?_
  simp only [qz]
  refine rg_move ?_
  simp only [qz]
  refine rf_mul (r := ((N * N : Nat) : Int)) rfl rfl rfl rfl (wrap_eqB (Int.natCast_mul N N).symm Ox Ox) ?_
  simp only [qz]
  obtain ⟨iN, hiN, hzN, hsN, hbN⟩ := info_partsN numInfo
  refine rg_make (n := N * N) (i := iN) Rx Try.underlying22 hiN hzN rfl rfl (by rw [hbN]; omega) Ox Nz (fun gz2 => ?_)
  rw [hsN, show (Value.agg #[.int .i64 0, .int .i64 0, .int .i64 0, .int .i64 0, .int .i64 0]).cells = #[.int .i64 0, .int .i64 0, .int .i64 0, .int .i64 0, .int .i64 0] from rfl, madeN]
  simp only [qz]
  refine rf_build (cs := fun a => #[a.eval (.tmp 3), a.eval (.tmp 7)]) rfl rfl Kx ?_
  simp only [qz]
  refine rf_storeR (n := 2) rfl rfl Kx rfl rfl (UpdR.there _ (UpdR.here _ _ _ Nl)) Nz ?_
  simp only [qz, Nat.reduceAdd]
  refine rg_nil (ek_next (wk_ret ?_))
  refine ek_ret (fun w hw => ⟨rfl, _, run_results1 rfl rfl (Kn.hd0 (Kn.tl hw)) Try.underlying24 rfl Kx, ?_⟩)
  (try simp only [qz])
  exact ⟨_, rfl, hw.made (List.Sublist.cons₂ _ (List.Sublist.cons _ (List.Sublist.refl _)))⟩

end Go.Proofs.Ytjeijnjaleldkaa
namespace Go.Proofs.Ytjeijnjaleldkaa
set_option linter.all false
open Go.RowKit

theorem fold_zip1 {γ : Type} (f : γ → Nat × Value → γ) (t : γ) (p : Nat) (v : Value) : Array.foldl f t (#[p].zip #[v]) = f t (p, v) := by
  have e : (#[p].zip #[v]) = #[(p, v)] := by rw [List.zip_toArray]; rfl
  rw [e]; simp
theorem ex_loop {B w : World} {F : List Nat} {s : List Blk} {l : Nat} {r : Loop} (K : Kn B F ((l, .loop r) :: s) w) : ∃ r', r' = r := ⟨_, rfl⟩
/-- What an iterator over patterns does. -/
def PatC (m : Nat) : Prop := ∀ (p lp gm gp L : Nat) (r : Loop) (C : List (List Int) → List Blk → Prop) (ys : List (List Int)) (s0 : List Blk) (w : World) (F : List Nat), p ≤ 5 → ys.length + (pats m p).length ≤ L → RoundsP L m lp r C → C ys s0 →
  Kn w F (s0 ++ [(gm, .cells #[.int .i64 m] 3), (gp, .cells #[.int .i64 p] 3)]) w →
  Calls Try.prog 118 #[.func (.yield lp) #[] #[], .pointer (some ⟨gm, 0, none⟩), .pointer (some ⟨gp, 0, none⟩)] w fun e w' => e = .returned (.tuple #[]) ∧ ∃ s u, C (ys ++ pats m p) s ∧ Kn w F (s ++ u) w'
set_option maxRecDepth 100000 in
set_option maxHeartbeats 1000000 in
theorem patterns_any (m p : Int) (w : World) : Calls Try.prog 69 #[.int .i64 m, .int .i64 p] w fun e w' => ∃ gm gp, e = .returned (.func (.func 118) #[] #[.pointer (some ⟨gm, 0, none⟩), .pointer (some ⟨gp, 0, none⟩)]) ∧ Made w [(gm, .cells #[.int .i64 m] 3), (gp, .cells #[.int .i64 p] 3)] w' := by
  go_enter Try.func69, Try.ntmps69
  refine wk_start ?_
  refine wk_seq ?_
  refine wk_region [1, 1, 0] rfl Kx ?_
  simp only [qy]
  refine Rgn fun g1 => ?_
  simp only [qz]
  refine Rgn fun g2 => ?_
  simp only [qz]
  refine rg_assign ?_
  simp only [qz]
  refine rg_nil (ek_next (wk_seq ?_))
  refine wk_region [0, 0] rfl Kx ?_
  simp only [qy]
  apply rg_soft
  case hy => (intro w hw; go_simp; (try go_bits); exact Yld.mk _ _)
  simp only [qz]
  refine rg_assign ?_
  simp only [qz]
  refine rg_nil (ek_next (wk_ret ?_))
  refine ek_ret (fun w hw => ⟨rfl, _, res_t _ rfl, ?_⟩)
  (try simp only [qz])
  exact ⟨g1, g2, rfl, (hw.perm (List.Perm.swap _ _ _)).made (List.Sublist.refl _)⟩

set_option maxRecDepth 100000 in
theorem pat_one : PatC 1 := by
  intro p lp gm gp L r C ys s0 w F hp hlim hR hC K
  have hlim' : ys.length < L := by (simp [pats] at hlim; omega)
  revert hC K
  generalize s0 = uC
  intro hC K
  refine calls_marksF K Try.func118 rfl ?_
  simp only [Try.ntmps118, List.size_toArray, List.length_cons, List.length_nil, Nat.reduceAdd, Nat.reduceSub, Array.replicate_succ, Array.replicate_zero, List.push_toArray, List.append_toArray, List.nil_append, List.cons_append]
  refine wk_seq ?_
  refine wk_region [1] rfl Kx ?_
  simp only [qy]
  refine Rgn fun g1 => ?_
  simp only [qz]
  refine rg_nil (ek_next (wk_seq (wk_seq ?_)))
  refine wk_region [0, 0] rfl Kx ?_
  simp only [qy]
  refine rf_load rfl rfl rfl Try.underlying3 rfl (fun w hw => (Kn.hd0 (Kn.tlU (Kn.tl hw))).at rfl) ?_
  simp only [qz]
  refine rfb_eql rfl rfl rfl rfl ?_
  intro x h1
  obtain rfl : x = true := by (refine h1.symm.trans ?_; exact decide_eq_true Ox)
  clear h1
  simp only [qz]
  refine rg_nil (ek_next (wk_cond_t rfl (wk_seq ?_)))
  refine wk_region [0, 0, 1, 1] rfl Kx ?_
  simp only [qy]
  refine rf_load rfl rfl rfl Try.underlying57 rfl (fun w hw => (Kn.hd0 hw).at rfl) ?_
  simp only [qz]
  refine rf_load rfl rfl rfl Try.underlying3 rfl (fun w hw => (Kn.hd0 (Kn.tl (Kn.tlU (Kn.tl hw)))).at rfl) ?_
  simp only [qz]
  refine rg_newS (cs := ?_) (ty := ?_) (n := 1) (c := 1) Rx (fun w => ?_) Nz (fun g2 => ?_); rotate_left 2
  focus (go_simp; rfl)
  simp only [qz]
  refine rg_yieldP (u := [_]) (row := [(p : Int)]) hR hC (by simp) (by simp) Ox (OwnZ.one _) (by exact ((perm_atU (l := [_]) (u := uC) (List.Perm.refl _)).cons _)) Rx rfl (by simp only [qm, qs, Act.eval] <;> rfl) (fun sD hCD => ?_)
  simp only [qz]
  refine rg_nil (ek_next (wk_ret (ek_then_ret ?_)))
  refine ek_retM0 (fun w hw => ⟨_, res_0 rfl, ?_⟩)
  exact ⟨rfl, sD, _, hCD, hw⟩
theorem as6 {α : Type} {x y z a b : α} {u r : List α} : x :: y :: z :: (u ++ (a :: b :: r)) = ((x :: y :: z :: u) ++ [a, b]) ++ r := by simp
theorem wrap_eq' {n r : Int} (h : n = r) (h0 : -9223372036854775808 ≤ r) (h1 : r < 9223372036854775808) : IntKind.i64.wrap n = r := by
  rw [h]; exact wrap_ok Ox Ox
set_option maxRecDepth 100000 in
set_option maxHeartbeats 1000000 in
theorem pat_step {m : Nat} (hm : m + 2 ≤ 6) (IH : PatC (m + 1)) : PatC (m + 2) := by
  intro p lp gm gp L r C ys s0 w F hp hlim hR hC K
  revert hC K
  generalize s0 = uC
  intro hC K
  refine calls_marksF K Try.func118 rfl ?_
  simp only [Try.ntmps118, List.size_toArray, List.length_cons, List.length_nil, Nat.reduceAdd, Nat.reduceSub, Array.replicate_succ, Array.replicate_zero, List.push_toArray, List.append_toArray, List.nil_append, List.cons_append]
  refine wk_seq ?_
  refine wk_region [1] rfl Kx ?_
  simp only [qy]
  refine Rgn fun g1 => ?_
  simp only [qz]
  refine rg_nil (ek_next (wk_seq (wk_seq ?_)))
  refine wk_region [0, 0] rfl Kx ?_
  simp only [qy]
  refine rf_load rfl rfl rfl Try.underlying3 rfl (fun w hw => (Kn.hd0 (Kn.tlU (Kn.tl hw))).at rfl) ?_
  simp only [qz]
  refine rfb_eql rfl rfl rfl rfl ?_
  intro x h1
  obtain rfl : x = false := by (refine h1.symm.trans ?_; exact decide_eq_false Ox)
  clear h1
  simp only [qz]
  refine rg_nil (ek_next (wk_cond_f rfl (wk_skip (ek_next (wk_seq ?_)))))
  refine wk_region [0, 1, 1] rfl Kx ?_
  simp only [qy]
  refine rf_load rfl rfl rfl Try.underlying3 rfl (fun w hw => (Kn.hd0 (Kn.tl (Kn.tlU (Kn.tl hw)))).at rfl) ?_
  simp only [qz]
  refine Rgn fun g2 => ?_
  simp only [qz]
  refine rf_store rfl rfl Kx rfl rfl (UpdR.here _ _ _ Nl) Nz ?_
  simp only [qz]
  refine rg_nil (ek_next (wk_block ?_))
  refine wk_loopD [4, 5, 13, 14, 15, 16, 17, 18, 19, 20, 21, 22, 23, 24, 25, 26, 27, 28, 29, 30, 31] (fun mz f ds s => ∃ (t : Nat) (dl : List Nat) (uC : List Blk) (gF : Nat), f 4 = .pointer (some ⟨gF, 0, none⟩) ∧ ds = collD dl ∧ s = (gF, .cells #[.int .i64 ((p : Int) - ((t : Nat) : Int))] 3) :: (g1, .cells #[.func (.yield lp) #[] #[]] 57) :: (uC ++ ((gm, .cells #[.int .i64 (((m + 2 : Nat) : Int))] 3) :: (gp, .cells #[.int .i64 (p)] 3) :: (marksD dl ++ []))) ∧ mz = p + 1 - t ∧ t ≤ p + 1 ∧ C (ys ++ patsT (m + 1) p t) uC) (p + 1 - 0) ?_ Kx ?_
  · exact ⟨0, [], uC, g2, rfl, rfl, (by rw [show ((p : Int) - ((0 : Nat) : Int)) = p by omega]; rfl), rfl, by omega, (by have h := hC; rwa [show ys = ys ++ patsT (m + 1) p 0 by simp [patsT]] at h)⟩
  clear hC
  rintro mz f1 ds s ⟨t, dl, uC, gF, hs4, rfl, rfl, hn, ht, hC⟩
  simp only [Act.putF, List.foldl_cons, List.foldl_nil, hs4, Act.put, Act.eval, q1, q2, q3, q4, q5, q6, q7, q8, q9, q10, q11, q12, q13, q14, q15, q16, q17, q18, Nat.reduceAdd, Bool.not_true, Bool.not_false]
  clear hs4
  refine wk_seq (wk_seq ?_)
  refine wk_region [0, 0] rfl Kx ?_
  simp only [qy]
  refine rf_load rfl rfl rfl Try.underlying3 rfl (fun w hw => (Kn.hd0 hw).at rfl) ?_
  simp only [qz]
  refine rfb_geq rfl rfl rfl rfl ?_
  intro x h2
  cases x
  · (try simp only [qd, ne_eq] at h2)
    simp only [qz]
    refine rg_nil (ek_next (wk_cond_f rfl (wk_exit (ek_then_exit (ek_then_exit (ek_block_exit ?_))))))
    refine ek_perm ((((((((((((List.Perm.refl _).cons _).trans (List.perm_middle (l₁ := (marksD dl))).symm).cons _).trans (List.perm_middle (l₁ := (marksD dl))).symm).append_left _).trans (List.perm_append_comm_assoc uC (marksD dl) _)).cons _).trans (List.perm_middle (l₁ := (marksD dl))).symm).cons _).trans (List.perm_middle (l₁ := (marksD dl))).symm).trans ((perm_atU (l := [_, _]) (u := uC) (List.Perm.refl _)).append_left _)) ?_
    obtain rfl : t = p + 1 := by omega
    refine ek_normMn dl (fun w hw => ⟨_, res_0 rfl, ?_⟩)
    exact ⟨rfl, uC, _, by rw [pats_T]; exact hC, hw⟩
  (try simp only [qd, ne_eq] at h2)
  simp only [qz]
  refine rg_nil (ek_next (wk_cond_t rfl (wk_skip (ek_next (wk_seq (wk_block (wk_seq ?_)))))))
  refine wk_region [0, 0, 0, 0, 0, 1] rfl Kx ?_
  simp only [qy]
  refine rf_load rfl rfl rfl Try.underlying3 rfl (fun w hw => (Kn.hd0 (Kn.tlU (Kn.tl (Kn.tl hw)))).at rfl) ?_
  simp only [qz]
  refine rf_sub (r := ((m + 1 : Nat) : Int)) rfl rfl rfl rfl (wrap_eq' Ox Ox Ox) ?_
  simp only [qz]
  refine rf_load rfl rfl rfl Try.underlying3 rfl (fun w hw => (Kn.hd0 (Kn.tl (Kn.tlU (Kn.tl (Kn.tl hw))))).at rfl) ?_
  simp only [qz]
  refine rf_load rfl rfl rfl Try.underlying3 rfl (fun w hw => (Kn.hd0 hw).at rfl) ?_
  simp only [qz]
  refine rf_sub (r := (t : Int)) rfl rfl rfl rfl (wrap_eq' Ox Ox Ox) ?_
  simp only [qz]
  apply rg_made (T := fun v u => ∃ gm2 gp2, v = .func (.func 118) #[] #[.pointer (some ⟨gm2, 0, none⟩), .pointer (some ⟨gp2, 0, none⟩)] ∧ u = [(gm2, .cells #[.int .i64 (((m + 1 : Nat) : Int))] 3), (gp2, .cells #[.int .i64 (t)] 3)]) Rx Kx
  case hargs => exact Ax
  case h => exact fun w hw => (patterns_any ((m + 1 : Nat) : Int) t w).mono (fun e w' ⟨gm2, gp2, he, hm⟩ => ⟨_, _, he, ⟨gm2, gp2, rfl, rfl⟩, hm⟩)
  case hz => exact Nz
  rintro _ _ ⟨gm2, gp2, rfl, rfl⟩
  simp only [List.cons_append, List.nil_append]
  simp only [qz]
  refine rg_nil (ek_next (wk_block ?_))
  refine wk_rangeFunc (f := 118) (caps := #[.pointer (some ⟨gm2, 0, none⟩), .pointer (some ⟨gp2, 0, none⟩)]) rfl Kx ?_
  intro fn dd lq w1 K1
  obtain ⟨r2, hr2⟩ := ex_loop K1
  rw [← hr2] at K1
  have K2 := K1.perm ((perm_at (l := [_, _, _, _]) (perm_at (l := [_, _, _]) (perm_atU (l := [_, _, _]) (u := uC) (perm_at (l := [_]) (perm_at (l := [_]) (List.Perm.refl _)))))).cons _)
  rw [as6] at K2
  have K3 := Kn.self (v := (_ :: _ :: _ :: uC) ++ [_, _]) (rest := _) K2
  have hlt := patsT_le (m := m) (p := p) (t := t) Ox
  have hR2 : RoundsP (pats (m + 1) t).length (m + 1) lq r2 (fun zs S => ∃ sC, S = (lq, .loop r2) :: (g1, .cells #[.func (.yield lp) #[] #[]] 57) :: (gF, .cells #[.int .i64 ((p : Int) - ((t : Nat) : Int))] 3) :: sC ∧ C ((ys ++ patsT (m + 1) p t) ++ zs.map (((p - t : Nat) : Int) :: ·)) sC) := by
    subst hr2
    refine ⟨rfl, fun zs S ⟨sC, e, _⟩ => by subst e; simp, ?_⟩
    intro R B F zs row uN v S uR w hl0 hl1 hzl ⟨uD, hS, hCz⟩ hO K
    subst hS
    simp only [List.cons_append] at K
    obtain ⟨av, cv, rfl, hcv⟩ := Own.val hO
    obtain ⟨ad, rfl, hAd⟩ := hO.addr hl0
    refine roundIn_kn (Rep.app _ (Rep.here _)) rfl ?_ K
    simp only [fold_zip1]
    simp only [qz]
    refine wk_region [0] rfl Kx ?_
    simp only [qy]
    refine rg_assign ?_
    simp only [qz]
    refine rg_nil ?_
    refine ek_asg ?_
    refine wk_block (wk_seq ?_)
    refine wk_rr Kx ?_
    refine rr_hard3 (i := 0) (j := 1) (k := 3) (f := 0) (g := 0) (e := 0) Kx rfl rfl rfl rfl rfl rfl ?_ ?_ ?_
    · refine rf_load rfl rfl rfl Try.underlying57 rfl (fun w hw => (Kn.hd0 (Kn.tl (Kn.tlU hw))).at rfl) ?_
      simp only [qz]
      refine rg_nil ?_
      refine ek_rr ?_
      refine rr_hard2 (i := 1) (j := 3) (f := 0) (g := 0) Kx rfl rfl rfl rfl ?_ ?_
      · refine rf_load rfl rfl rfl Try.underlying3 rfl (fun w hw => (Kn.hd0 (Kn.tl (Kn.tl (Kn.tlU hw)))).at rfl) ?_
        simp only [qz]
        refine rg_nil ?_
        refine ek_rr ?_
        refine rr_hard2 (i := 2) (j := 3) (f := 1) (g := 0) Kx rfl rfl rfl rfl ?_ ?_
        · refine rg_newS (cs := ?_) (ty := ?_) (n := 1) (c := 1) Rx (fun w => ?_) Nz (fun g3 => ?_); rotate_left 2
          focus (go_simp; rfl)
          simp only [qz]
          refine rg_nil ?_
          refine ek_rr ?_
          refine rr_hard1 (i := 3) (f := 0) Kx rfl rfl ?_
          refine rg_move ?_
          simp only [qz]
          refine rg_nil ?_
          refine ek_rr ?_
          refine rr_hard1 (i := 4) (f := 1) Kx rfl rfl ?_
          refine rg_consZ (x := (p : Int) - ((t : Nat) : Int)) Rx rfl rfl (fun w hw => hAd hw (List.Sublist.cons _ (List.sublist_append_left _ _))) Ox hl0 (List.Perm.refl _) Nz (fun uP aP cP hOP => ?_)
          simp only [qz]
          refine rg_nil ?_
          refine ek_rr ?_
          refine rr_hard1 (i := 5) (f := 1) Kx rfl rfl ?_
          refine rg_yieldP hR hCz (by simp) (by simp; omega) (by simp only [List.length_append, List.length_map]; omega) hOP (((((((((((List.Perm.refl _).cons _).trans (List.perm_middle (l₁ := uD)).symm).cons _).trans (List.perm_middle (l₁ := uD)).symm).cons _).trans (List.perm_middle (l₁ := uD)).symm).append_left _).trans (List.perm_append_comm_assoc uN uD _)).trans ((List.Perm.refl _).append_left _)).append_left _) Rx rfl (by simp only [qm, qs, Act.eval, List.length_cons] <;> rfl) (fun uE hCE => ?_)
          simp only [qz]
          refine rg_nil ?_
          refine ek_rr ?_
          refine rr_hard1 (i := 6) (f := 0) Kx rfl rfl ?_
          refine rf_not rfl rfl rfl ?_
          simp only [qz]
          refine rg_nil ?_
          refine ek_rr ?_
          refine rr_nil Kx ?_
          refine ek_next (wk_cond_f rfl (wk_skip (ek_block ?_)))
          refine ek_sub (List.Sublist.append_left ((sc _ (sc _ (sc _ (List.Sublist.refl _)))).trans (List.sublist_append_right _ _)) _) ?_
          refine ek_perm ((((List.Perm.refl _).append_left _).trans (List.perm_middle (l₁ := uE))).trans (((((List.Perm.refl _).append_left _).trans (List.perm_middle (l₁ := uE))).trans (((((List.Perm.refl _).append_left _).trans (List.perm_middle (l₁ := uE))).trans ((List.Perm.refl _).cons _)).cons _)).cons _)) ?_
          refine ek_roundEnd (Rep.here _) (fun w hw => ⟨_, rfl, ⟨uE, rfl, ?_⟩, hw⟩)
          have h := hCE
          rw [show (p : Int) - ((t : Nat) : Int) = ((p - t : Nat) : Int) by omega] at h
          simpa [List.append_assoc] using h
        · refine rg_move ?_
          simp only [qz]
          refine rg_nil ?_
          refine ek_rr ?_
          refine rr_hard1 (i := 2) (f := 1) Kx rfl rfl ?_
          refine rg_newS (cs := ?_) (ty := ?_) (n := 1) (c := 1) Rx (fun w => ?_) Nz (fun g4 => ?_); rotate_left 2
          focus (go_simp; rfl)
          simp only [qz]
          refine rg_nil ?_
          refine ek_rr ?_
          refine rr_hard1 (i := 4) (f := 1) Kx rfl rfl ?_
          refine rg_consZ (x := (p : Int) - ((t : Nat) : Int)) Rx rfl rfl (fun w hw => hAd hw (List.Sublist.cons _ (List.sublist_append_left _ _))) Ox hl0 (List.Perm.refl _) Nz (fun uP aP cP hOP => ?_)
          simp only [qz]
          refine rg_nil ?_
          refine ek_rr ?_
          refine rr_hard1 (i := 5) (f := 1) Kx rfl rfl ?_
          refine rg_yieldP hR hCz (by simp) (by simp; omega) (by simp only [List.length_append, List.length_map]; omega) hOP (((((((((((List.Perm.refl _).cons _).trans (List.perm_middle (l₁ := uD)).symm).cons _).trans (List.perm_middle (l₁ := uD)).symm).cons _).trans (List.perm_middle (l₁ := uD)).symm).append_left _).trans (List.perm_append_comm_assoc uN uD _)).trans ((List.Perm.refl _).append_left _)).append_left _) Rx rfl (by simp only [qm, qs, Act.eval, List.length_cons] <;> rfl) (fun uE hCE => ?_)
          simp only [qz]
          refine rg_nil ?_
          refine ek_rr ?_
          refine rr_hard1 (i := 6) (f := 0) Kx rfl rfl ?_
          refine rf_not rfl rfl rfl ?_
          simp only [qz]
          refine rg_nil ?_
          refine ek_rr ?_
          refine rr_nil Kx ?_
          refine ek_next (wk_cond_f rfl (wk_skip (ek_block ?_)))
          refine ek_sub (List.Sublist.append_left ((sc _ (sc _ (sc _ (List.Sublist.refl _)))).trans (List.sublist_append_right _ _)) _) ?_
          refine ek_perm ((((List.Perm.refl _).append_left _).trans (List.perm_middle (l₁ := uE))).trans (((((List.Perm.refl _).append_left _).trans (List.perm_middle (l₁ := uE))).trans (((((List.Perm.refl _).append_left _).trans (List.perm_middle (l₁ := uE))).trans ((List.Perm.refl _).cons _)).cons _)).cons _)) ?_
          refine ek_roundEnd (Rep.here _) (fun w hw => ⟨_, rfl, ⟨uE, rfl, ?_⟩, hw⟩)
          have h := hCE
          rw [show (p : Int) - ((t : Nat) : Int) = ((p - t : Nat) : Int) by omega] at h
          simpa [List.append_assoc] using h
      · refine rg_move ?_
        simp only [qz]
        refine rg_nil ?_
        refine ek_rr ?_
        refine rr_hard1 (i := 1) (f := 0) Kx rfl rfl ?_
        refine rf_load rfl rfl rfl Try.underlying3 rfl (fun w hw => (Kn.hd0 (Kn.tl (Kn.tl (Kn.tlU hw)))).at rfl) ?_
        simp only [qz]
        refine rg_nil ?_
        refine ek_rr ?_
        refine rr_hard1 (i := 2) (f := 1) Kx rfl rfl ?_
        refine rg_newS (cs := ?_) (ty := ?_) (n := 1) (c := 1) Rx (fun w => ?_) Nz (fun g5 => ?_); rotate_left 2
        focus (go_simp; rfl)
        simp only [qz]
        refine rg_nil ?_
        refine ek_rr ?_
        refine rr_hard1 (i := 4) (f := 1) Kx rfl rfl ?_
        refine rg_consZ (x := (p : Int) - ((t : Nat) : Int)) Rx rfl rfl (fun w hw => hAd hw (List.Sublist.cons _ (List.sublist_append_left _ _))) Ox hl0 (List.Perm.refl _) Nz (fun uP aP cP hOP => ?_)
        simp only [qz]
        refine rg_nil ?_
        refine ek_rr ?_
        refine rr_hard1 (i := 5) (f := 1) Kx rfl rfl ?_
        refine rg_yieldP hR hCz (by simp) (by simp; omega) (by simp only [List.length_append, List.length_map]; omega) hOP (((((((((((List.Perm.refl _).cons _).trans (List.perm_middle (l₁ := uD)).symm).cons _).trans (List.perm_middle (l₁ := uD)).symm).cons _).trans (List.perm_middle (l₁ := uD)).symm).append_left _).trans (List.perm_append_comm_assoc uN uD _)).trans ((List.Perm.refl _).append_left _)).append_left _) Rx rfl (by simp only [qm, qs, Act.eval, List.length_cons] <;> rfl) (fun uE hCE => ?_)
        simp only [qz]
        refine rg_nil ?_
        refine ek_rr ?_
        refine rr_hard1 (i := 6) (f := 0) Kx rfl rfl ?_
        refine rf_not rfl rfl rfl ?_
        simp only [qz]
        refine rg_nil ?_
        refine ek_rr ?_
        refine rr_nil Kx ?_
        refine ek_next (wk_cond_f rfl (wk_skip (ek_block ?_)))
        refine ek_sub (List.Sublist.append_left ((sc _ (sc _ (sc _ (List.Sublist.refl _)))).trans (List.sublist_append_right _ _)) _) ?_
        refine ek_perm ((((List.Perm.refl _).append_left _).trans (List.perm_middle (l₁ := uE))).trans (((((List.Perm.refl _).append_left _).trans (List.perm_middle (l₁ := uE))).trans (((((List.Perm.refl _).append_left _).trans (List.perm_middle (l₁ := uE))).trans ((List.Perm.refl _).cons _)).cons _)).cons _)) ?_
        refine ek_roundEnd (Rep.here _) (fun w hw => ⟨_, rfl, ⟨uE, rfl, ?_⟩, hw⟩)
        have h := hCE
        rw [show (p : Int) - ((t : Nat) : Int) = ((p - t : Nat) : Int) by omega] at h
        simpa [List.append_assoc] using h
    · refine rf_load rfl rfl rfl Try.underlying3 rfl (fun w hw => (Kn.hd0 (Kn.tl (Kn.tl (Kn.tlU hw)))).at rfl) ?_
      simp only [qz]
      refine rg_nil ?_
      refine ek_rr ?_
      refine rr_hard3 (i := 0) (j := 2) (k := 3) (f := 0) (g := 1) (e := 0) Kx rfl rfl rfl rfl rfl rfl ?_ ?_ ?_
      · refine rf_load rfl rfl rfl Try.underlying57 rfl (fun w hw => (Kn.hd0 (Kn.tl (Kn.tlU hw))).at rfl) ?_
        simp only [qz]
        refine rg_nil ?_
        refine ek_rr ?_
        refine rr_hard2 (i := 2) (j := 3) (f := 1) (g := 0) Kx rfl rfl rfl rfl ?_ ?_
        · refine rg_newS (cs := ?_) (ty := ?_) (n := 1) (c := 1) Rx (fun w => ?_) Nz (fun g6 => ?_); rotate_left 2
          focus (go_simp; rfl)
          simp only [qz]
          refine rg_nil ?_
          refine ek_rr ?_
          refine rr_hard1 (i := 3) (f := 0) Kx rfl rfl ?_
          refine rg_move ?_
          simp only [qz]
          refine rg_nil ?_
          refine ek_rr ?_
          refine rr_hard1 (i := 4) (f := 1) Kx rfl rfl ?_
          refine rg_consZ (x := (p : Int) - ((t : Nat) : Int)) Rx rfl rfl (fun w hw => hAd hw (List.Sublist.cons _ (List.sublist_append_left _ _))) Ox hl0 (List.Perm.refl _) Nz (fun uP aP cP hOP => ?_)
          simp only [qz]
          refine rg_nil ?_
          refine ek_rr ?_
          refine rr_hard1 (i := 5) (f := 1) Kx rfl rfl ?_
          refine rg_yieldP hR hCz (by simp) (by simp; omega) (by simp only [List.length_append, List.length_map]; omega) hOP (((((((((((List.Perm.refl _).cons _).trans (List.perm_middle (l₁ := uD)).symm).cons _).trans (List.perm_middle (l₁ := uD)).symm).cons _).trans (List.perm_middle (l₁ := uD)).symm).append_left _).trans (List.perm_append_comm_assoc uN uD _)).trans ((List.Perm.refl _).append_left _)).append_left _) Rx rfl (by simp only [qm, qs, Act.eval, List.length_cons] <;> rfl) (fun uE hCE => ?_)
          simp only [qz]
          refine rg_nil ?_
          refine ek_rr ?_
          refine rr_hard1 (i := 6) (f := 0) Kx rfl rfl ?_
          refine rf_not rfl rfl rfl ?_
          simp only [qz]
          refine rg_nil ?_
          refine ek_rr ?_
          refine rr_nil Kx ?_
          refine ek_next (wk_cond_f rfl (wk_skip (ek_block ?_)))
          refine ek_sub (List.Sublist.append_left ((sc _ (sc _ (sc _ (List.Sublist.refl _)))).trans (List.sublist_append_right _ _)) _) ?_
          refine ek_perm ((((List.Perm.refl _).append_left _).trans (List.perm_middle (l₁ := uE))).trans (((((List.Perm.refl _).append_left _).trans (List.perm_middle (l₁ := uE))).trans (((((List.Perm.refl _).append_left _).trans (List.perm_middle (l₁ := uE))).trans ((List.Perm.refl _).cons _)).cons _)).cons _)) ?_
          refine ek_roundEnd (Rep.here _) (fun w hw => ⟨_, rfl, ⟨uE, rfl, ?_⟩, hw⟩)
          have h := hCE
          rw [show (p : Int) - ((t : Nat) : Int) = ((p - t : Nat) : Int) by omega] at h
          simpa [List.append_assoc] using h
        · refine rg_move ?_
          simp only [qz]
          refine rg_nil ?_
          refine ek_rr ?_
          refine rr_hard1 (i := 2) (f := 1) Kx rfl rfl ?_
          refine rg_newS (cs := ?_) (ty := ?_) (n := 1) (c := 1) Rx (fun w => ?_) Nz (fun g7 => ?_); rotate_left 2
          focus (go_simp; rfl)
          simp only [qz]
          refine rg_nil ?_
          refine ek_rr ?_
          refine rr_hard1 (i := 4) (f := 1) Kx rfl rfl ?_
          refine rg_consZ (x := (p : Int) - ((t : Nat) : Int)) Rx rfl rfl (fun w hw => hAd hw (List.Sublist.cons _ (List.sublist_append_left _ _))) Ox hl0 (List.Perm.refl _) Nz (fun uP aP cP hOP => ?_)
          simp only [qz]
          refine rg_nil ?_
          refine ek_rr ?_
          refine rr_hard1 (i := 5) (f := 1) Kx rfl rfl ?_
          refine rg_yieldP hR hCz (by simp) (by simp; omega) (by simp only [List.length_append, List.length_map]; omega) hOP (((((((((((List.Perm.refl _).cons _).trans (List.perm_middle (l₁ := uD)).symm).cons _).trans (List.perm_middle (l₁ := uD)).symm).cons _).trans (List.perm_middle (l₁ := uD)).symm).append_left _).trans (List.perm_append_comm_assoc uN uD _)).trans ((List.Perm.refl _).append_left _)).append_left _) Rx rfl (by simp only [qm, qs, Act.eval, List.length_cons] <;> rfl) (fun uE hCE => ?_)
          simp only [qz]
          refine rg_nil ?_
          refine ek_rr ?_
          refine rr_hard1 (i := 6) (f := 0) Kx rfl rfl ?_
          refine rf_not rfl rfl rfl ?_
          simp only [qz]
          refine rg_nil ?_
          refine ek_rr ?_
          refine rr_nil Kx ?_
          refine ek_next (wk_cond_f rfl (wk_skip (ek_block ?_)))
          refine ek_sub (List.Sublist.append_left ((sc _ (sc _ (sc _ (List.Sublist.refl _)))).trans (List.sublist_append_right _ _)) _) ?_
          refine ek_perm ((((List.Perm.refl _).append_left _).trans (List.perm_middle (l₁ := uE))).trans (((((List.Perm.refl _).append_left _).trans (List.perm_middle (l₁ := uE))).trans (((((List.Perm.refl _).append_left _).trans (List.perm_middle (l₁ := uE))).trans ((List.Perm.refl _).cons _)).cons _)).cons _)) ?_
          refine ek_roundEnd (Rep.here _) (fun w hw => ⟨_, rfl, ⟨uE, rfl, ?_⟩, hw⟩)
          have h := hCE
          rw [show (p : Int) - ((t : Nat) : Int) = ((p - t : Nat) : Int) by omega] at h
          simpa [List.append_assoc] using h
      · refine rg_newS (cs := ?_) (ty := ?_) (n := 1) (c := 1) Rx (fun w => ?_) Nz (fun g8 => ?_); rotate_left 2
        focus (go_simp; rfl)
        simp only [qz]
        refine rg_nil ?_
        refine ek_rr ?_
        refine rr_hard2 (i := 0) (j := 3) (f := 0) (g := 0) Kx rfl rfl rfl rfl ?_ ?_
        · refine rf_load rfl rfl rfl Try.underlying57 rfl (fun w hw => (Kn.hd0 (Kn.tl (Kn.tlU (Kn.tl hw)))).at rfl) ?_
          simp only [qz]
          refine rg_nil ?_
          refine ek_rr ?_
          refine rr_hard1 (i := 3) (f := 0) Kx rfl rfl ?_
          refine rg_move ?_
          simp only [qz]
          refine rg_nil ?_
          refine ek_rr ?_
          refine rr_hard1 (i := 4) (f := 1) Kx rfl rfl ?_
          refine rg_consZ (x := (p : Int) - ((t : Nat) : Int)) Rx rfl rfl (fun w hw => hAd hw (List.Sublist.cons _ (List.sublist_append_left _ _))) Ox hl0 (List.Perm.refl _) Nz (fun uP aP cP hOP => ?_)
          simp only [qz]
          refine rg_nil ?_
          refine ek_rr ?_
          refine rr_hard1 (i := 5) (f := 1) Kx rfl rfl ?_
          refine rg_yieldP hR hCz (by simp) (by simp; omega) (by simp only [List.length_append, List.length_map]; omega) hOP (((((((((((List.Perm.refl _).cons _).trans (List.perm_middle (l₁ := uD)).symm).cons _).trans (List.perm_middle (l₁ := uD)).symm).cons _).trans (List.perm_middle (l₁ := uD)).symm).append_left _).trans (List.perm_append_comm_assoc uN uD _)).trans ((List.Perm.refl _).append_left _)).append_left _) Rx rfl (by simp only [qm, qs, Act.eval, List.length_cons] <;> rfl) (fun uE hCE => ?_)
          simp only [qz]
          refine rg_nil ?_
          refine ek_rr ?_
          refine rr_hard1 (i := 6) (f := 0) Kx rfl rfl ?_
          refine rf_not rfl rfl rfl ?_
          simp only [qz]
          refine rg_nil ?_
          refine ek_rr ?_
          refine rr_nil Kx ?_
          refine ek_next (wk_cond_f rfl (wk_skip (ek_block ?_)))
          refine ek_sub (List.Sublist.append_left ((sc _ (sc _ (sc _ (List.Sublist.refl _)))).trans (List.sublist_append_right _ _)) _) ?_
          refine ek_perm ((((List.Perm.refl _).append_left _).trans (List.perm_middle (l₁ := uE))).trans (((((List.Perm.refl _).append_left _).trans (List.perm_middle (l₁ := uE))).trans (((((List.Perm.refl _).append_left _).trans (List.perm_middle (l₁ := uE))).trans ((List.Perm.refl _).cons _)).cons _)).cons _)) ?_
          refine ek_roundEnd (Rep.here _) (fun w hw => ⟨_, rfl, ⟨uE, rfl, ?_⟩, hw⟩)
          have h := hCE
          rw [show (p : Int) - ((t : Nat) : Int) = ((p - t : Nat) : Int) by omega] at h
          simpa [List.append_assoc] using h
        · refine rg_move ?_
          simp only [qz]
          refine rg_nil ?_
          refine ek_rr ?_
          refine rr_hard2 (i := 0) (j := 4) (f := 0) (g := 1) Kx rfl rfl rfl rfl ?_ ?_
          · refine rf_load rfl rfl rfl Try.underlying57 rfl (fun w hw => (Kn.hd0 (Kn.tl (Kn.tlU (Kn.tl hw)))).at rfl) ?_
            simp only [qz]
            refine rg_nil ?_
            refine ek_rr ?_
            refine rr_hard1 (i := 4) (f := 1) Kx rfl rfl ?_
            refine rg_consZ (x := (p : Int) - ((t : Nat) : Int)) Rx rfl rfl (fun w hw => hAd hw (List.Sublist.cons _ (List.sublist_append_left _ _))) Ox hl0 (List.Perm.refl _) Nz (fun uP aP cP hOP => ?_)
            simp only [qz]
            refine rg_nil ?_
            refine ek_rr ?_
            refine rr_hard1 (i := 5) (f := 1) Kx rfl rfl ?_
            refine rg_yieldP hR hCz (by simp) (by simp; omega) (by simp only [List.length_append, List.length_map]; omega) hOP (((((((((((List.Perm.refl _).cons _).trans (List.perm_middle (l₁ := uD)).symm).cons _).trans (List.perm_middle (l₁ := uD)).symm).cons _).trans (List.perm_middle (l₁ := uD)).symm).append_left _).trans (List.perm_append_comm_assoc uN uD _)).trans ((List.Perm.refl _).append_left _)).append_left _) Rx rfl (by simp only [qm, qs, Act.eval, List.length_cons] <;> rfl) (fun uE hCE => ?_)
            simp only [qz]
            refine rg_nil ?_
            refine ek_rr ?_
            refine rr_hard1 (i := 6) (f := 0) Kx rfl rfl ?_
            refine rf_not rfl rfl rfl ?_
            simp only [qz]
            refine rg_nil ?_
            refine ek_rr ?_
            refine rr_nil Kx ?_
            refine ek_next (wk_cond_f rfl (wk_skip (ek_block ?_)))
            refine ek_sub (List.Sublist.append_left ((sc _ (sc _ (sc _ (List.Sublist.refl _)))).trans (List.sublist_append_right _ _)) _) ?_
            refine ek_perm ((((List.Perm.refl _).append_left _).trans (List.perm_middle (l₁ := uE))).trans (((((List.Perm.refl _).append_left _).trans (List.perm_middle (l₁ := uE))).trans (((((List.Perm.refl _).append_left _).trans (List.perm_middle (l₁ := uE))).trans ((List.Perm.refl _).cons _)).cons _)).cons _)) ?_
            refine ek_roundEnd (Rep.here _) (fun w hw => ⟨_, rfl, ⟨uE, rfl, ?_⟩, hw⟩)
            have h := hCE
            rw [show (p : Int) - ((t : Nat) : Int) = ((p - t : Nat) : Int) by omega] at h
            simpa [List.append_assoc] using h
          · refine rg_consZ (x := (p : Int) - ((t : Nat) : Int)) Rx rfl rfl (fun w hw => hAd hw (List.Sublist.cons _ (List.sublist_append_left _ _))) Ox hl0 (List.Perm.refl _) Nz (fun uP aP cP hOP => ?_)
            simp only [qz]
            refine rg_nil ?_
            refine ek_rr ?_
            refine rr_hard1 (i := 0) (f := 0) Kx rfl rfl ?_
            refine rf_load rfl rfl rfl Try.underlying57 rfl (fun w hw => (Kn.hd0 (Kn.tl (Kn.tlU (Kn.tlU hw)))).at rfl) ?_
            simp only [qz]
            refine rg_nil ?_
            refine ek_rr ?_
            refine rr_hard1 (i := 5) (f := 1) Kx rfl rfl ?_
            refine rg_yieldP hR hCz (by simp) (by simp; omega) (by simp only [List.length_append, List.length_map]; omega) hOP (((((((((((List.Perm.refl _).cons _).trans (List.perm_middle (l₁ := uD)).symm).cons _).trans (List.perm_middle (l₁ := uD)).symm).cons _).trans (List.perm_middle (l₁ := uD)).symm).append_left _).trans (List.perm_append_comm_assoc uN uD _)).trans ((List.Perm.refl _).append_left _)).append_left _) Rx rfl (by simp only [qm, qs, Act.eval, List.length_cons] <;> rfl) (fun uE hCE => ?_)
            simp only [qz]
            refine rg_nil ?_
            refine ek_rr ?_
            refine rr_hard1 (i := 6) (f := 0) Kx rfl rfl ?_
            refine rf_not rfl rfl rfl ?_
            simp only [qz]
            refine rg_nil ?_
            refine ek_rr ?_
            refine rr_nil Kx ?_
            refine ek_next (wk_cond_f rfl (wk_skip (ek_block ?_)))
            refine ek_sub (List.Sublist.append_left ((sc _ (sc _ (sc _ (List.Sublist.refl _)))).trans (List.sublist_append_right _ _)) _) ?_
            refine ek_perm ((((List.Perm.refl _).append_left _).trans (List.perm_middle (l₁ := uE))).trans (((((List.Perm.refl _).append_left _).trans (List.perm_middle (l₁ := uE))).trans (((((List.Perm.refl _).append_left _).trans (List.perm_middle (l₁ := uE))).trans ((List.Perm.refl _).cons _)).cons _)).cons _)) ?_
            refine ek_roundEnd (Rep.here _) (fun w hw => ⟨_, rfl, ⟨uE, rfl, ?_⟩, hw⟩)
            have h := hCE
            rw [show (p : Int) - ((t : Nat) : Int) = ((p - t : Nat) : Int) by omega] at h
            simpa [List.append_assoc] using h
      · refine rg_move ?_
        simp only [qz]
        refine rg_nil ?_
        refine ek_rr ?_
        refine rr_hard2 (i := 0) (j := 2) (f := 0) (g := 1) Kx rfl rfl rfl rfl ?_ ?_
        · refine rf_load rfl rfl rfl Try.underlying57 rfl (fun w hw => (Kn.hd0 (Kn.tl (Kn.tlU hw))).at rfl) ?_
          simp only [qz]
          refine rg_nil ?_
          refine ek_rr ?_
          refine rr_hard1 (i := 2) (f := 1) Kx rfl rfl ?_
          refine rg_newS (cs := ?_) (ty := ?_) (n := 1) (c := 1) Rx (fun w => ?_) Nz (fun g9 => ?_); rotate_left 2
          focus (go_simp; rfl)
          simp only [qz]
          refine rg_nil ?_
          refine ek_rr ?_
          refine rr_hard1 (i := 4) (f := 1) Kx rfl rfl ?_
          refine rg_consZ (x := (p : Int) - ((t : Nat) : Int)) Rx rfl rfl (fun w hw => hAd hw (List.Sublist.cons _ (List.sublist_append_left _ _))) Ox hl0 (List.Perm.refl _) Nz (fun uP aP cP hOP => ?_)
          simp only [qz]
          refine rg_nil ?_
          refine ek_rr ?_
          refine rr_hard1 (i := 5) (f := 1) Kx rfl rfl ?_
          refine rg_yieldP hR hCz (by simp) (by simp; omega) (by simp only [List.length_append, List.length_map]; omega) hOP (((((((((((List.Perm.refl _).cons _).trans (List.perm_middle (l₁ := uD)).symm).cons _).trans (List.perm_middle (l₁ := uD)).symm).cons _).trans (List.perm_middle (l₁ := uD)).symm).append_left _).trans (List.perm_append_comm_assoc uN uD _)).trans ((List.Perm.refl _).append_left _)).append_left _) Rx rfl (by simp only [qm, qs, Act.eval, List.length_cons] <;> rfl) (fun uE hCE => ?_)
          simp only [qz]
          refine rg_nil ?_
          refine ek_rr ?_
          refine rr_hard1 (i := 6) (f := 0) Kx rfl rfl ?_
          refine rf_not rfl rfl rfl ?_
          simp only [qz]
          refine rg_nil ?_
          refine ek_rr ?_
          refine rr_nil Kx ?_
          refine ek_next (wk_cond_f rfl (wk_skip (ek_block ?_)))
          refine ek_sub (List.Sublist.append_left ((sc _ (sc _ (sc _ (List.Sublist.refl _)))).trans (List.sublist_append_right _ _)) _) ?_
          refine ek_perm ((((List.Perm.refl _).append_left _).trans (List.perm_middle (l₁ := uE))).trans (((((List.Perm.refl _).append_left _).trans (List.perm_middle (l₁ := uE))).trans (((((List.Perm.refl _).append_left _).trans (List.perm_middle (l₁ := uE))).trans ((List.Perm.refl _).cons _)).cons _)).cons _)) ?_
          refine ek_roundEnd (Rep.here _) (fun w hw => ⟨_, rfl, ⟨uE, rfl, ?_⟩, hw⟩)
          have h := hCE
          rw [show (p : Int) - ((t : Nat) : Int) = ((p - t : Nat) : Int) by omega] at h
          simpa [List.append_assoc] using h
        · refine rg_newS (cs := ?_) (ty := ?_) (n := 1) (c := 1) Rx (fun w => ?_) Nz (fun g10 => ?_); rotate_left 2
          focus (go_simp; rfl)
          simp only [qz]
          refine rg_nil ?_
          refine ek_rr ?_
          refine rr_hard2 (i := 0) (j := 4) (f := 0) (g := 1) Kx rfl rfl rfl rfl ?_ ?_
          · refine rf_load rfl rfl rfl Try.underlying57 rfl (fun w hw => (Kn.hd0 (Kn.tl (Kn.tlU (Kn.tl hw)))).at rfl) ?_
            simp only [qz]
            refine rg_nil ?_
            refine ek_rr ?_
            refine rr_hard1 (i := 4) (f := 1) Kx rfl rfl ?_
            refine rg_consZ (x := (p : Int) - ((t : Nat) : Int)) Rx rfl rfl (fun w hw => hAd hw (List.Sublist.cons _ (List.sublist_append_left _ _))) Ox hl0 (List.Perm.refl _) Nz (fun uP aP cP hOP => ?_)
            simp only [qz]
            refine rg_nil ?_
            refine ek_rr ?_
            refine rr_hard1 (i := 5) (f := 1) Kx rfl rfl ?_
            refine rg_yieldP hR hCz (by simp) (by simp; omega) (by simp only [List.length_append, List.length_map]; omega) hOP (((((((((((List.Perm.refl _).cons _).trans (List.perm_middle (l₁ := uD)).symm).cons _).trans (List.perm_middle (l₁ := uD)).symm).cons _).trans (List.perm_middle (l₁ := uD)).symm).append_left _).trans (List.perm_append_comm_assoc uN uD _)).trans ((List.Perm.refl _).append_left _)).append_left _) Rx rfl (by simp only [qm, qs, Act.eval, List.length_cons] <;> rfl) (fun uE hCE => ?_)
            simp only [qz]
            refine rg_nil ?_
            refine ek_rr ?_
            refine rr_hard1 (i := 6) (f := 0) Kx rfl rfl ?_
            refine rf_not rfl rfl rfl ?_
            simp only [qz]
            refine rg_nil ?_
            refine ek_rr ?_
            refine rr_nil Kx ?_
            refine ek_next (wk_cond_f rfl (wk_skip (ek_block ?_)))
            refine ek_sub (List.Sublist.append_left ((sc _ (sc _ (sc _ (List.Sublist.refl _)))).trans (List.sublist_append_right _ _)) _) ?_
            refine ek_perm ((((List.Perm.refl _).append_left _).trans (List.perm_middle (l₁ := uE))).trans (((((List.Perm.refl _).append_left _).trans (List.perm_middle (l₁ := uE))).trans (((((List.Perm.refl _).append_left _).trans (List.perm_middle (l₁ := uE))).trans ((List.Perm.refl _).cons _)).cons _)).cons _)) ?_
            refine ek_roundEnd (Rep.here _) (fun w hw => ⟨_, rfl, ⟨uE, rfl, ?_⟩, hw⟩)
            have h := hCE
            rw [show (p : Int) - ((t : Nat) : Int) = ((p - t : Nat) : Int) by omega] at h
            simpa [List.append_assoc] using h
          · refine rg_consZ (x := (p : Int) - ((t : Nat) : Int)) Rx rfl rfl (fun w hw => hAd hw (List.Sublist.cons _ (List.sublist_append_left _ _))) Ox hl0 (List.Perm.refl _) Nz (fun uP aP cP hOP => ?_)
            simp only [qz]
            refine rg_nil ?_
            refine ek_rr ?_
            refine rr_hard1 (i := 0) (f := 0) Kx rfl rfl ?_
            refine rf_load rfl rfl rfl Try.underlying57 rfl (fun w hw => (Kn.hd0 (Kn.tl (Kn.tlU (Kn.tlU hw)))).at rfl) ?_
            simp only [qz]
            refine rg_nil ?_
            refine ek_rr ?_
            refine rr_hard1 (i := 5) (f := 1) Kx rfl rfl ?_
            refine rg_yieldP hR hCz (by simp) (by simp; omega) (by simp only [List.length_append, List.length_map]; omega) hOP (((((((((((List.Perm.refl _).cons _).trans (List.perm_middle (l₁ := uD)).symm).cons _).trans (List.perm_middle (l₁ := uD)).symm).cons _).trans (List.perm_middle (l₁ := uD)).symm).append_left _).trans (List.perm_append_comm_assoc uN uD _)).trans ((List.Perm.refl _).append_left _)).append_left _) Rx rfl (by simp only [qm, qs, Act.eval, List.length_cons] <;> rfl) (fun uE hCE => ?_)
            simp only [qz]
            refine rg_nil ?_
            refine ek_rr ?_
            refine rr_hard1 (i := 6) (f := 0) Kx rfl rfl ?_
            refine rf_not rfl rfl rfl ?_
            simp only [qz]
            refine rg_nil ?_
            refine ek_rr ?_
            refine rr_nil Kx ?_
            refine ek_next (wk_cond_f rfl (wk_skip (ek_block ?_)))
            refine ek_sub (List.Sublist.append_left ((sc _ (sc _ (sc _ (List.Sublist.refl _)))).trans (List.sublist_append_right _ _)) _) ?_
            refine ek_perm ((((List.Perm.refl _).append_left _).trans (List.perm_middle (l₁ := uE))).trans (((((List.Perm.refl _).append_left _).trans (List.perm_middle (l₁ := uE))).trans (((((List.Perm.refl _).append_left _).trans (List.perm_middle (l₁ := uE))).trans ((List.Perm.refl _).cons _)).cons _)).cons _)) ?_
            refine ek_roundEnd (Rep.here _) (fun w hw => ⟨_, rfl, ⟨uE, rfl, ?_⟩, hw⟩)
            have h := hCE
            rw [show (p : Int) - ((t : Nat) : Int) = ((p - t : Nat) : Int) by omega] at h
            simpa [List.append_assoc] using h
    · refine rg_move ?_
      simp only [qz]
      refine rg_nil ?_
      refine ek_rr ?_
      refine rr_hard2 (i := 0) (j := 1) (f := 0) (g := 0) Kx rfl rfl rfl rfl ?_ ?_
      · refine rf_load rfl rfl rfl Try.underlying57 rfl (fun w hw => (Kn.hd0 (Kn.tl (Kn.tlU hw))).at rfl) ?_
        simp only [qz]
        refine rg_nil ?_
        refine ek_rr ?_
        refine rr_hard1 (i := 1) (f := 0) Kx rfl rfl ?_
        refine rf_load rfl rfl rfl Try.underlying3 rfl (fun w hw => (Kn.hd0 (Kn.tl (Kn.tl (Kn.tlU hw)))).at rfl) ?_
        simp only [qz]
        refine rg_nil ?_
        refine ek_rr ?_
        refine rr_hard1 (i := 2) (f := 1) Kx rfl rfl ?_
        refine rg_newS (cs := ?_) (ty := ?_) (n := 1) (c := 1) Rx (fun w => ?_) Nz (fun g11 => ?_); rotate_left 2
        focus (go_simp; rfl)
        simp only [qz]
        refine rg_nil ?_
        refine ek_rr ?_
        refine rr_hard1 (i := 4) (f := 1) Kx rfl rfl ?_
        refine rg_consZ (x := (p : Int) - ((t : Nat) : Int)) Rx rfl rfl (fun w hw => hAd hw (List.Sublist.cons _ (List.sublist_append_left _ _))) Ox hl0 (List.Perm.refl _) Nz (fun uP aP cP hOP => ?_)
        simp only [qz]
        refine rg_nil ?_
        refine ek_rr ?_
        refine rr_hard1 (i := 5) (f := 1) Kx rfl rfl ?_
        refine rg_yieldP hR hCz (by simp) (by simp; omega) (by simp only [List.length_append, List.length_map]; omega) hOP (((((((((((List.Perm.refl _).cons _).trans (List.perm_middle (l₁ := uD)).symm).cons _).trans (List.perm_middle (l₁ := uD)).symm).cons _).trans (List.perm_middle (l₁ := uD)).symm).append_left _).trans (List.perm_append_comm_assoc uN uD _)).trans ((List.Perm.refl _).append_left _)).append_left _) Rx rfl (by simp only [qm, qs, Act.eval, List.length_cons] <;> rfl) (fun uE hCE => ?_)
        simp only [qz]
        refine rg_nil ?_
        refine ek_rr ?_
        refine rr_hard1 (i := 6) (f := 0) Kx rfl rfl ?_
        refine rf_not rfl rfl rfl ?_
        simp only [qz]
        refine rg_nil ?_
        refine ek_rr ?_
        refine rr_nil Kx ?_
        refine ek_next (wk_cond_f rfl (wk_skip (ek_block ?_)))
        refine ek_sub (List.Sublist.append_left ((sc _ (sc _ (sc _ (List.Sublist.refl _)))).trans (List.sublist_append_right _ _)) _) ?_
        refine ek_perm ((((List.Perm.refl _).append_left _).trans (List.perm_middle (l₁ := uE))).trans (((((List.Perm.refl _).append_left _).trans (List.perm_middle (l₁ := uE))).trans (((((List.Perm.refl _).append_left _).trans (List.perm_middle (l₁ := uE))).trans ((List.Perm.refl _).cons _)).cons _)).cons _)) ?_
        refine ek_roundEnd (Rep.here _) (fun w hw => ⟨_, rfl, ⟨uE, rfl, ?_⟩, hw⟩)
        have h := hCE
        rw [show (p : Int) - ((t : Nat) : Int) = ((p - t : Nat) : Int) by omega] at h
        simpa [List.append_assoc] using h
      · refine rf_load rfl rfl rfl Try.underlying3 rfl (fun w hw => (Kn.hd0 (Kn.tl (Kn.tl (Kn.tlU hw)))).at rfl) ?_
        simp only [qz]
        refine rg_nil ?_
        refine ek_rr ?_
        refine rr_hard2 (i := 0) (j := 2) (f := 0) (g := 1) Kx rfl rfl rfl rfl ?_ ?_
        · refine rf_load rfl rfl rfl Try.underlying57 rfl (fun w hw => (Kn.hd0 (Kn.tl (Kn.tlU hw))).at rfl) ?_
          simp only [qz]
          refine rg_nil ?_
          refine ek_rr ?_
          refine rr_hard1 (i := 2) (f := 1) Kx rfl rfl ?_
          refine rg_newS (cs := ?_) (ty := ?_) (n := 1) (c := 1) Rx (fun w => ?_) Nz (fun g12 => ?_); rotate_left 2
          focus (go_simp; rfl)
          simp only [qz]
          refine rg_nil ?_
          refine ek_rr ?_
          refine rr_hard1 (i := 4) (f := 1) Kx rfl rfl ?_
          refine rg_consZ (x := (p : Int) - ((t : Nat) : Int)) Rx rfl rfl (fun w hw => hAd hw (List.Sublist.cons _ (List.sublist_append_left _ _))) Ox hl0 (List.Perm.refl _) Nz (fun uP aP cP hOP => ?_)
          simp only [qz]
          refine rg_nil ?_
          refine ek_rr ?_
          refine rr_hard1 (i := 5) (f := 1) Kx rfl rfl ?_
          refine rg_yieldP hR hCz (by simp) (by simp; omega) (by simp only [List.length_append, List.length_map]; omega) hOP (((((((((((List.Perm.refl _).cons _).trans (List.perm_middle (l₁ := uD)).symm).cons _).trans (List.perm_middle (l₁ := uD)).symm).cons _).trans (List.perm_middle (l₁ := uD)).symm).append_left _).trans (List.perm_append_comm_assoc uN uD _)).trans ((List.Perm.refl _).append_left _)).append_left _) Rx rfl (by simp only [qm, qs, Act.eval, List.length_cons] <;> rfl) (fun uE hCE => ?_)
          simp only [qz]
          refine rg_nil ?_
          refine ek_rr ?_
          refine rr_hard1 (i := 6) (f := 0) Kx rfl rfl ?_
          refine rf_not rfl rfl rfl ?_
          simp only [qz]
          refine rg_nil ?_
          refine ek_rr ?_
          refine rr_nil Kx ?_
          refine ek_next (wk_cond_f rfl (wk_skip (ek_block ?_)))
          refine ek_sub (List.Sublist.append_left ((sc _ (sc _ (sc _ (List.Sublist.refl _)))).trans (List.sublist_append_right _ _)) _) ?_
          refine ek_perm ((((List.Perm.refl _).append_left _).trans (List.perm_middle (l₁ := uE))).trans (((((List.Perm.refl _).append_left _).trans (List.perm_middle (l₁ := uE))).trans (((((List.Perm.refl _).append_left _).trans (List.perm_middle (l₁ := uE))).trans ((List.Perm.refl _).cons _)).cons _)).cons _)) ?_
          refine ek_roundEnd (Rep.here _) (fun w hw => ⟨_, rfl, ⟨uE, rfl, ?_⟩, hw⟩)
          have h := hCE
          rw [show (p : Int) - ((t : Nat) : Int) = ((p - t : Nat) : Int) by omega] at h
          simpa [List.append_assoc] using h
        · refine rg_newS (cs := ?_) (ty := ?_) (n := 1) (c := 1) Rx (fun w => ?_) Nz (fun g13 => ?_); rotate_left 2
          focus (go_simp; rfl)
          simp only [qz]
          refine rg_nil ?_
          refine ek_rr ?_
          refine rr_hard2 (i := 0) (j := 4) (f := 0) (g := 1) Kx rfl rfl rfl rfl ?_ ?_
          · refine rf_load rfl rfl rfl Try.underlying57 rfl (fun w hw => (Kn.hd0 (Kn.tl (Kn.tlU (Kn.tl hw)))).at rfl) ?_
            simp only [qz]
            refine rg_nil ?_
            refine ek_rr ?_
            refine rr_hard1 (i := 4) (f := 1) Kx rfl rfl ?_
            refine rg_consZ (x := (p : Int) - ((t : Nat) : Int)) Rx rfl rfl (fun w hw => hAd hw (List.Sublist.cons _ (List.sublist_append_left _ _))) Ox hl0 (List.Perm.refl _) Nz (fun uP aP cP hOP => ?_)
            simp only [qz]
            refine rg_nil ?_
            refine ek_rr ?_
            refine rr_hard1 (i := 5) (f := 1) Kx rfl rfl ?_
            refine rg_yieldP hR hCz (by simp) (by simp; omega) (by simp only [List.length_append, List.length_map]; omega) hOP (((((((((((List.Perm.refl _).cons _).trans (List.perm_middle (l₁ := uD)).symm).cons _).trans (List.perm_middle (l₁ := uD)).symm).cons _).trans (List.perm_middle (l₁ := uD)).symm).append_left _).trans (List.perm_append_comm_assoc uN uD _)).trans ((List.Perm.refl _).append_left _)).append_left _) Rx rfl (by simp only [qm, qs, Act.eval, List.length_cons] <;> rfl) (fun uE hCE => ?_)
            simp only [qz]
            refine rg_nil ?_
            refine ek_rr ?_
            refine rr_hard1 (i := 6) (f := 0) Kx rfl rfl ?_
            refine rf_not rfl rfl rfl ?_
            simp only [qz]
            refine rg_nil ?_
            refine ek_rr ?_
            refine rr_nil Kx ?_
            refine ek_next (wk_cond_f rfl (wk_skip (ek_block ?_)))
            refine ek_sub (List.Sublist.append_left ((sc _ (sc _ (sc _ (List.Sublist.refl _)))).trans (List.sublist_append_right _ _)) _) ?_
            refine ek_perm ((((List.Perm.refl _).append_left _).trans (List.perm_middle (l₁ := uE))).trans (((((List.Perm.refl _).append_left _).trans (List.perm_middle (l₁ := uE))).trans (((((List.Perm.refl _).append_left _).trans (List.perm_middle (l₁ := uE))).trans ((List.Perm.refl _).cons _)).cons _)).cons _)) ?_
            refine ek_roundEnd (Rep.here _) (fun w hw => ⟨_, rfl, ⟨uE, rfl, ?_⟩, hw⟩)
            have h := hCE
            rw [show (p : Int) - ((t : Nat) : Int) = ((p - t : Nat) : Int) by omega] at h
            simpa [List.append_assoc] using h
          · refine rg_consZ (x := (p : Int) - ((t : Nat) : Int)) Rx rfl rfl (fun w hw => hAd hw (List.Sublist.cons _ (List.sublist_append_left _ _))) Ox hl0 (List.Perm.refl _) Nz (fun uP aP cP hOP => ?_)
            simp only [qz]
            refine rg_nil ?_
            refine ek_rr ?_
            refine rr_hard1 (i := 0) (f := 0) Kx rfl rfl ?_
            refine rf_load rfl rfl rfl Try.underlying57 rfl (fun w hw => (Kn.hd0 (Kn.tl (Kn.tlU (Kn.tlU hw)))).at rfl) ?_
            simp only [qz]
            refine rg_nil ?_
            refine ek_rr ?_
            refine rr_hard1 (i := 5) (f := 1) Kx rfl rfl ?_
            refine rg_yieldP hR hCz (by simp) (by simp; omega) (by simp only [List.length_append, List.length_map]; omega) hOP (((((((((((List.Perm.refl _).cons _).trans (List.perm_middle (l₁ := uD)).symm).cons _).trans (List.perm_middle (l₁ := uD)).symm).cons _).trans (List.perm_middle (l₁ := uD)).symm).append_left _).trans (List.perm_append_comm_assoc uN uD _)).trans ((List.Perm.refl _).append_left _)).append_left _) Rx rfl (by simp only [qm, qs, Act.eval, List.length_cons] <;> rfl) (fun uE hCE => ?_)
            simp only [qz]
            refine rg_nil ?_
            refine ek_rr ?_
            refine rr_hard1 (i := 6) (f := 0) Kx rfl rfl ?_
            refine rf_not rfl rfl rfl ?_
            simp only [qz]
            refine rg_nil ?_
            refine ek_rr ?_
            refine rr_nil Kx ?_
            refine ek_next (wk_cond_f rfl (wk_skip (ek_block ?_)))
            refine ek_sub (List.Sublist.append_left ((sc _ (sc _ (sc _ (List.Sublist.refl _)))).trans (List.sublist_append_right _ _)) _) ?_
            refine ek_perm ((((List.Perm.refl _).append_left _).trans (List.perm_middle (l₁ := uE))).trans (((((List.Perm.refl _).append_left _).trans (List.perm_middle (l₁ := uE))).trans (((((List.Perm.refl _).append_left _).trans (List.perm_middle (l₁ := uE))).trans ((List.Perm.refl _).cons _)).cons _)).cons _)) ?_
            refine ek_roundEnd (Rep.here _) (fun w hw => ⟨_, rfl, ⟨uE, rfl, ?_⟩, hw⟩)
            have h := hCE
            rw [show (p : Int) - ((t : Nat) : Int) = ((p - t : Nat) : Int) by omega] at h
            simpa [List.append_assoc] using h
  have hpend : r2.pending = none := by subst hr2; rfl
  have hst : r2.state ≠ .busy := by (subst hr2; simp)
  clear hr2
  refine (IH t lq gm2 gp2 _ r2 _ [] _ w1 _ Ox (by simp) hR2 ⟨uC, rfl, by simpa using hC⟩ K3).mono ?_
  rintro e w2 ⟨rfl, sS, u2, ⟨uD, rfl, hCD⟩, hK⟩
  have K4 := Kn.effApp (v := (_ :: _ :: _ :: uC) ++ [_, _]) (rest := _) K2 hK
  simp only [List.cons_append, List.append_assoc, List.nil_append] at K4
  refine ⟨_, _, r2, _, rfl, K4, Rep.here _, hst, ?_⟩
  rw [hpend]
  simp only [List.nil_append] at hCD
  refine ek_block (ek_block (ek_next (wk_seq (wk_seq ?_))))
  refine wk_region [0] rfl Kx ?_
  simp only [qy]
  refine rf_load rfl rfl rfl Try.underlying3 rfl (fun w hw => (Kn.hd0 (Kn.tl (Kn.tl hw))).at rfl) ?_
  simp only [qz]
  refine rg_nil (ek_next ?_)
  refine wk_region [1, 1] rfl Kx ?_
  simp only [qy]
  refine Rgn fun g3 => ?_
  simp only [qz]
  refine rf_store rfl rfl Kx rfl rfl (UpdR.here _ _ _ Nl) Nz ?_
  simp only [qz]
  refine rg_nil (ek_next ?_)
  refine wk_region [0, 0, 1] rfl Kx ?_
  simp only [qy]
  refine rf_load rfl rfl rfl Try.underlying3 rfl (fun w hw => (Kn.hd0 hw).at rfl) ?_
  simp only [qz]
  refine rf_sub (r := (p : Int) - ((t + 1 : Nat) : Int)) rfl rfl rfl rfl (wrap_eq' Ox Ox Ox) ?_
  simp only [qz]
  refine rf_store rfl rfl Kx rfl rfl (UpdR.here _ _ _ Nl) Nz ?_
  simp only [qz]
  refine rg_nil ?_
  refine ek_sub (sc _ (sk _ (sc _ (sk _ (List.Sublist.append_left ((sc _ (sc _ (sc _ (List.Sublist.append_left sn _)))).trans (List.sublist_append_right _ _)) _))))) ?_
  refine ek_perm ((((perm_at (l := [_]) (perm_at (l := [_]) (List.Perm.refl _))).append_left _).cons _).cons _) ?_
  refine ek_roundD (p + 1 - (t + 1)) Ox Kx ?_
  exact ⟨t + 1, dd :: dl, uD, g3, rfl, rfl, rfl, rfl, by omega, (by have h := hCD; simpa [patsT, List.append_assoc] using h)⟩
theorem pat_all : ∀ m, m + 1 ≤ 6 → PatC (m + 1)
  | 0, _ => pat_one
  | m + 1, h => pat_step Ox (pat_all m Ox)
end Go.Proofs.Ytjeijnjaleldkaa
namespace Go.Proofs.Ytjeijnjaleldkaa
set_option linter.all false
open Go.RowKit

theorem pats_tab : ((List.range 7).all fun m => (List.range 6).all fun p => decide ((pats m p).length ≤ 1000)) = true := by kernel_rfl
theorem pats_small {m p : Nat} (hm : m ≤ 6) (hp : p ≤ 5) : (pats m p).length ≤ 1000 :=
  of_decide_eq_true (List.all_eq_true.1 (List.all_eq_true.1 pats_tab m (List.mem_range.2 Ox)) p (List.mem_range.2 Ox))
theorem as2 {α : Type} {x y a b : α} {u r : List α} : x :: y :: (u ++ (a :: b :: r)) = ((x :: y :: u) ++ [a, b]) ++ r := by simp
set_option maxRecDepth 100000 in
set_option maxHeartbeats 1000000 in
theorem appendSeq_any (m p : Nat) (hm : m + 1 ≤ 6) (hp : p ≤ 5) (gm gp : Nat) (w : World) (F : List Nat) (K : Kn w F [(gm, .cells #[.int .i64 ((m + 1 : Nat) : Int)] 3), (gp, .cells #[.int .i64 p] 3)] w) : Calls Try.prog 117 #[.slice none 0 0, .func (.func 118) #[] #[.pointer (some ⟨gm, 0, none⟩), .pointer (some ⟨gp, 0, none⟩)]] w fun e w' => ∃ v U, e = .returned v ∧ OwnL U v (pats (m + 1) p) ∧ Kn w F U w' := by
  have hsm := pats_small (m := m + 1) (p := p) Ox hp
  refine calls_marksF K Try.func117 rfl ?_
  simp only [Try.ntmps117, List.size_toArray, List.length_cons, List.length_nil, Nat.reduceAdd, Nat.reduceSub, Array.replicate_succ, Array.replicate_zero, List.push_toArray, List.append_toArray, List.nil_append, List.cons_append]
  refine wk_seq ?_
  refine wk_region [1, 0] rfl Kx ?_
  simp only [qy]
  refine Rgn fun g1 => ?_
  simp only [qz]
  refine rg_assign ?_
  simp only [qz]
  refine rg_nil (ek_next (wk_seq (wk_seq ?_)))
  refine wk_region [0] rfl Kx ?_
  simp only [qy]
  refine rg_move ?_
  simp only [qz]
  refine rg_nil (ek_next (wk_block ?_))
  refine wk_rangeFunc (f := 118) (caps := #[.pointer (some ⟨gm, 0, none⟩), .pointer (some ⟨gp, 0, none⟩)]) rfl Kx ?_
  intro fn dd lq w1 K1
  obtain ⟨r2, hr2⟩ := ex_loop K1
  rw [← hr2] at K1
  have K2 := K1.perm ((perm_at (l := [_]) (perm_at (l := [_]) (perm_at (l := [_]) (List.Perm.refl _)))).cons _)
  have K3 := Kn.self (v := (_ :: _ :: ([] : List Blk)) ++ [_, _]) (rest := [_]) K2
  have hR2 : RoundsP (pats (m + 1) p).length (m + 1) lq r2 (fun ys S => ∃ uT uS hs v, S = (lq, .loop r2) :: (g1, .cells #[v] 33) :: (uT ++ uS) ∧ Own 37 1 uT v ys.length hs ∧ RowsZ uS hs ys) := by
    subst hr2
    refine ⟨rfl, fun ys S ⟨_, _, _, _, e, _⟩ => by subst e; simp, ?_⟩
    intro R B F ys row uN v S uR w hl0 hl1 hyl ⟨uT, uS, hs, vT, hS, hOT, hRS⟩ hO K
    clear hl1
    subst hS
    simp only [List.cons_append, List.append_assoc] at K
    obtain ⟨av, cv, rfl, hcv⟩ := Own.val hO
    obtain ⟨aT, cT, rfl, hcT⟩ := Own.val hOT
    refine roundIn_kn (Rep.app _ (Rep.here _)) rfl ?_ K
    simp only [fold_zip1]
    simp only [qz]
    refine wk_region [0] rfl Kx ?_
    simp only [qy]
    refine rg_assign ?_
    simp only [qz]
    refine rg_nil ?_
    refine ek_asg ?_
    refine wk_block ?_
    refine wk_region [0, 0, 1, 1, 1] rfl Kx ?_
    simp only [qy]
    refine rf_load rfl rfl rfl Try.underlying33 rfl (fun w hw => (Kn.hd0 (Kn.tl (Kn.tlU hw))).at rfl) ?_
    simp only [qz]
    refine rg_move ?_
    simp only [qz]
    refine rg_newS (cs := ?_) (ty := ?_) (n := 1) (c := 1) Rx (fun w => ?_) Nz (fun g2 => ?_); rotate_left 2
    focus (go_simp; rfl)
    simp only [qz]
    refine rg_appL (h := .slice av row.length cv) Rx rfl hOT rfl Ox rfl ((((((((((List.Perm.refl _).cons _).trans (List.perm_middle (l₁ := uT)).symm).cons _).trans (List.perm_middle (l₁ := uT)).symm).append_left _).trans (List.perm_append_comm_assoc uN uT _)).cons _).trans (List.perm_middle (l₁ := uT)).symm).trans ((List.Perm.refl _).append_left _)) (fun w hw => Kn.hd0 hw) Nz (fun uP aP cP hOP => ?_)
    simp only [qz]
    refine rf_store rfl rfl Kx rfl rfl (UpdR.app _ (UpdR.there _ (UpdR.app _ (UpdR.there _ (UpdR.here _ _ _ Nl))))) Nz ?_
    simp only [qz]
    refine rg_nil (ek_block ?_)
    refine ek_sub (List.Sublist.append_left (sk _ (List.Sublist.append_left (sc _ (sc _ (List.Sublist.append_left (List.Sublist.refl _) _))) _)) _) ?_
    refine ek_perm ((((((List.Perm.refl _).append_left _).trans (List.perm_middle (l₁ := uN))).append_left _).trans (List.perm_middle (l₁ := uP))).trans (((((((List.Perm.refl _).append_left _).trans (List.perm_middle (l₁ := uN))).append_left _).trans (List.perm_middle (l₁ := uP))).trans ((List.Perm.refl _).cons _)).cons _)) ?_
    refine ek_roundEnd (Rep.here _) (fun w hw => ⟨_, rfl, ⟨uP, uN ++ uS, _, _, rfl, (by rw [List.length_append]; exact hOP), hRS.snoc hO⟩, ?_⟩)
    simpa [List.append_assoc] using hw
  have hpend : r2.pending = none := by subst hr2; rfl
  have hst : r2.state ≠ .busy := by (subst hr2; simp)
  clear hr2
  refine (pat_all m Ox p lq gm gp _ r2 _ [] _ w1 _ hp (by simp) hR2 ⟨[], [], [], _, rfl, Own.nil _ _, .nil⟩ K3).mono ?_
  rintro e w2 ⟨rfl, sS, u2, ⟨uT, uS, hs, vT, rfl, hOT, hRS⟩, hK⟩
  have K4 := Kn.effApp (v := (_ :: _ :: ([] : List Blk)) ++ [_, _]) (rest := [_]) K2 hK
  simp only [List.cons_append, List.append_assoc, List.nil_append] at K4
  refine ⟨_, _, r2, _, rfl, K4, Rep.here _, hst, ?_⟩
  rw [hpend]
  simp only [List.nil_append] at hOT hRS
  refine ek_block (ek_next (wk_seq ?_))
  refine wk_region [0, 0] rfl Kx ?_
  simp only [qy]
  refine rf_load rfl rfl rfl Try.underlying33 rfl (fun w hw => (Kn.hd0 (Kn.tl hw)).at rfl) ?_
  simp only [qz]
  refine rg_assign ?_
  simp only [qz]
  refine rg_nil (ek_next (wk_ret ?_))
  refine ek_sub (sk _ (sk _ (List.Sublist.append_left (List.Sublist.append_left ((sc _ sn).trans (List.sublist_append_right _ _)) _) _))) ?_
  refine ek_perm ((((((List.Perm.refl _).append_left _).trans (List.perm_middle (l₁ := uS))).append_left _).trans (List.perm_middle (l₁ := uT))).trans ((List.Perm.refl _).cons _)) ?_
  refine ek_retMn [dd] (fun w hw => ⟨_, res_t 4 rfl, ?_⟩)
  (try simp only [qz])
  exact ⟨vT, uT ++ uS, rfl, ⟨uT, uS, hs, rfl, hOT, hRS⟩, by simpa using hw⟩

set_option maxRecDepth 100000 in
set_option maxHeartbeats 1000000 in
theorem collect_any (m p : Nat) (hm : m + 1 ≤ 6) (hp : p ≤ 5) (gm gp : Nat) (w : World) (F : List Nat) (K : Kn w F [(gm, .cells #[.int .i64 ((m + 1 : Nat) : Int)] 3), (gp, .cells #[.int .i64 p] 3)] w) : Calls Try.prog 68 #[.func (.func 118) #[] #[.pointer (some ⟨gm, 0, none⟩), .pointer (some ⟨gp, 0, none⟩)]] w fun e w' => ∃ v U, e = .returned v ∧ OwnL U v (pats (m + 1) p) ∧ Kn w F U w' := by
  go_enter Try.func68, Try.ntmps68
  refine wk_startF K ?_
  refine wk_seq ?_
  refine wk_region [0] rfl Kx ?_
  simp only [qy]
  refine rg_assign ?_
  simp only [qz]
  refine rg_nil (ek_next (wk_seq ?_))
  refine wk_region [0, 1, 0] rfl Kx ?_
  simp only [qy]
  refine rg_move ?_
  simp only [qz]
  apply rg_call Rx Kx
  case hargs => exact Ax
  refine fun w2 hw => (appendSeq_any m p hm hp gm gp w2 [gm, gp] (Kn.self (v := [_, _]) (rest := []) (by simpa using hw))).mono ?_
  rintro e w3 ⟨v, U, rfl, hO, hK⟩
  have K2 := Kn.effApp (v := [_, _]) (rest := []) (by simpa using hw) hK
  refine ⟨v, U, rfl, by simpa using K2, Nz, ?_⟩
  simp only [qz]
  refine rg_assign ?_
  simp only [qz]
  refine rg_nil (ek_next (wk_ret ?_))
  refine ek_ret (fun w hw => ⟨rfl, _, res_t _ rfl, ?_⟩)
  (try simp only [qz])
  exact ⟨v, U, rfl, hO, hw⟩

def patR (m p : Int) : List (List Int) := if 1 ≤ m ∧ m ≤ 6 ∧ 0 ≤ p ∧ p ≤ 5 then pats m.toNat p.toNat else []
def patE (m p : Int) : Int := if 1 ≤ m ∧ m ≤ 6 ∧ 0 ≤ p ∧ p ≤ 5 then 0 else 2
set_option maxRecDepth 100000 in
set_option maxHeartbeats 1000000 in
theorem mpatterns_any (mi pi : Int) (w : World) : Calls Try.prog 19 #[.int .i64 mi, .int .i64 pi] w fun e w' => RetL w (patR mi pi) (patE mi pi) e w' := by
  go_enter Try.func19, Try.ntmps19
  refine wk_start ?_
  refine wk_seq ?_
  refine wk_region [0, 0] rfl Kx ?_
  simp only [qy]
  refine rg_assign ?_
  simp only [qz]
  refine rg_assign ?_
  simp only [qz]
  refine rg_nil (ek_next (wk_seq (wk_seq ?_)))
  refine wk_region [0, 0, 0, 0, 0, 0, 0, 0, 0, 0, 0, 0, 0, 0] rfl Kx ?_
  simp only [qy]
  refine rg_move ?_
  simp only [qz]
  refine rfb_lss rfl rfl rfl rfl ?_
  intro x h1
  cases x
  · (try simp only [qd, ne_eq] at h1)
    simp only [qz]
    refine rg_move ?_
    simp only [qz]
    apply rg_soft_g
    case hg => rfl
    case hy => (intro w hw; go_simp; (try go_bits); exact Yld.mk _ _)
    simp only [qz]
    refine rfb_gtr rfl rfl rfl rfl ?_
    intro x h2
    cases x
    · (try simp only [qd, ne_eq] at h2)
      simp only [qz]
      refine rf_pick rfl rfl rfl ?_
      simp only [qz]
      refine rg_move ?_
      simp only [qz]
      apply rg_soft_g
      case hg => rfl
      case hy => (intro w hw; go_simp; (try go_bits); exact Yld.mk _ _)
      simp only [qz]
      refine rfb_lss rfl rfl rfl rfl ?_
      intro x h3
      cases x
      · (try simp only [qd, ne_eq] at h3)
        simp only [qz]
        refine rf_pick rfl rfl rfl ?_
        simp only [qz]
        refine rg_move ?_
        simp only [qz]
        apply rg_soft_g
        case hg => rfl
        case hy => (intro w hw; go_simp; (try go_bits); exact Yld.mk _ _)
        simp only [qz]
        refine rfb_gtr rfl rfl rfl rfl ?_
        intro x h4
        cases x
        · (try simp only [qd, ne_eq] at h4)
          simp only [qz]
          refine rf_pick rfl rfl rfl ?_
          simp only [qz]
          refine rg_nil (ek_next (wk_cond_f rfl (wk_skip (ek_next (wk_seq ?_)))))
          refine wk_region [0, 0, 1, 1, 0, 0] rfl Kx ?_
          simp only [qy]
          refine rg_move ?_
          simp only [qz]
          refine rg_move ?_
          simp only [qz]
          obtain ⟨m, rfl⟩ : ∃ m : Nat, mi = ((m + 1 : Nat) : Int) := ⟨(mi - 1).toNat, by omega⟩
          obtain ⟨p, rfl⟩ : ∃ p : Nat, pi = p := ⟨pi.toNat, by omega⟩
          apply rg_made (T := fun v u => ∃ gm gp, v = .func (.func 118) #[] #[.pointer (some ⟨gm, 0, none⟩), .pointer (some ⟨gp, 0, none⟩)] ∧ u = [(gm, .cells #[.int .i64 ((m + 1 : Nat) : Int)] 3), (gp, .cells #[.int .i64 p] 3)]) Rx Kx
          case hargs => exact Ax
          case h => exact fun w hw => (patterns_any ((m + 1 : Nat) : Int) p w).mono (fun e w' ⟨gm, gp, he, hm⟩ => ⟨_, _, he, ⟨gm, gp, rfl, rfl⟩, hm⟩)
          case hz => exact Nz
          rintro _ _ ⟨gm, gp, rfl, rfl⟩
          simp only [List.cons_append, List.nil_append]
          simp only [qz]
          apply rg_call Rx Kx
          case hargs => exact Ax
          refine fun w2 hw => (collect_any m p Ox Ox gm gp w2 [gm, gp] (Kn.self (v := [_, _]) (rest := []) (by simpa using hw))).mono ?_
          rintro e w3 ⟨v, U, rfl, hO, hK⟩
          have K2 := Kn.effApp (v := [_, _]) (rest := []) (by simpa using hw) hK
          refine ⟨v, U, rfl, by simpa using K2, Nz, ?_⟩
          simp only [qz]
          refine rg_assign ?_
          simp only [qz]
          refine rg_assign ?_
          simp only [qz]
          refine rg_nil (ek_next (wk_ret ?_))
          refine ek_ret (fun w hw => ⟨rfl, _, res_tt _ _ rfl, ?_⟩)
          (try simp only [qz])
          exact ⟨v, U, by unfold patE; rw [if_pos Ox], (by unfold patR; rw [if_pos Ox]; exact hO), hw.made (List.Sublist.refl _)⟩
        (try simp only [qd, ne_eq] at h4)
        simp only [qz]
        refine rf_pick rfl rfl rfl ?_
        simp only [qz]
        refine rg_nil (ek_next (wk_cond_t rfl (wk_seq ?_)))
        refine wk_region [0, 0] rfl Kx ?_
        simp only [qy]
        refine rg_assign ?_
        simp only [qz]
        refine rg_assign ?_
        simp only [qz]
        refine rg_nil (ek_next (wk_ret (ek_then_ret ?_)))
        refine ek_ret (fun w hw => ⟨rfl, _, res_tt _ _ rfl, ?_⟩)
        (try simp only [qz])
        exact ⟨_, [], by unfold patE; rw [if_neg Ox], (by unfold patR; rw [if_neg Ox]; exact OwnL.nil), .nil hw.below⟩
      (try simp only [qd, ne_eq] at h3)
      simp only [qz]
      refine rf_pick rfl rfl rfl ?_
      simp only [qz]
      refine rg_move ?_
      simp only [qz]
      refine rg_skip Rx ?_
      simp only [qz]
      refine rg_skip Rx ?_
      simp only [qz]
      refine rf_pick rfl rfl rfl ?_
      simp only [qz]
      refine rg_nil (ek_next (wk_cond_t rfl (wk_seq ?_)))
      refine wk_region [0, 0] rfl Kx ?_
      simp only [qy]
      refine rg_assign ?_
      simp only [qz]
      refine rg_assign ?_
      simp only [qz]
      refine rg_nil (ek_next (wk_ret (ek_then_ret ?_)))
      refine ek_ret (fun w hw => ⟨rfl, _, res_tt _ _ rfl, ?_⟩)
      (try simp only [qz])
      exact ⟨_, [], by unfold patE; rw [if_neg Ox], (by unfold patR; rw [if_neg Ox]; exact OwnL.nil), .nil hw.below⟩
    (try simp only [qd, ne_eq] at h2)
    simp only [qz]
    refine rf_pick rfl rfl rfl ?_
    simp only [qz]
    refine rg_move ?_
    simp only [qz]
    refine rg_skip Rx ?_
    simp only [qz]
    refine rg_skip Rx ?_
    simp only [qz]
    refine rf_pick rfl rfl rfl ?_
    simp only [qz]
    refine rg_move ?_
    simp only [qz]
    refine rg_skip Rx ?_
    simp only [qz]
    refine rg_skip Rx ?_
    simp only [qz]
    refine rf_pick rfl rfl rfl ?_
    simp only [qz]
    refine rg_nil (ek_next (wk_cond_t rfl (wk_seq ?_)))
    refine wk_region [0, 0] rfl Kx ?_
    simp only [qy]
    refine rg_assign ?_
    simp only [qz]
    refine rg_assign ?_
    simp only [qz]
    refine rg_nil (ek_next (wk_ret (ek_then_ret ?_)))
    refine ek_ret (fun w hw => ⟨rfl, _, res_tt _ _ rfl, ?_⟩)
    (try simp only [qz])
    exact ⟨_, [], by unfold patE; rw [if_neg Ox], (by unfold patR; rw [if_neg Ox]; exact OwnL.nil), .nil hw.below⟩
  (try simp only [qd, ne_eq] at h1)
  simp only [qz]
  refine rg_move ?_
  simp only [qz]
  refine rg_skip Rx ?_
  simp only [qz]
  refine rg_skip Rx ?_
  simp only [qz]
  refine rf_pick rfl rfl rfl ?_
  simp only [qz]
  refine rg_move ?_
  simp only [qz]
  refine rg_skip Rx ?_
  simp only [qz]
  refine rg_skip Rx ?_
  simp only [qz]
  refine rf_pick rfl rfl rfl ?_
  simp only [qz]
  refine rg_move ?_
  simp only [qz]
  refine rg_skip Rx ?_
  simp only [qz]
  refine rg_skip Rx ?_
  simp only [qz]
  refine rf_pick rfl rfl rfl ?_
  simp only [qz]
  refine rg_nil (ek_next (wk_cond_t rfl (wk_seq ?_)))
  refine wk_region [0, 0] rfl Kx ?_
  simp only [qy]
  refine rg_assign ?_
  simp only [qz]
  refine rg_assign ?_
  simp only [qz]
  refine rg_nil (ek_next (wk_ret (ek_then_ret ?_)))
  refine ek_ret (fun w hw => ⟨rfl, _, res_tt _ _ rfl, ?_⟩)
  (try simp only [qz])
  exact ⟨_, [], by unfold patE; rw [if_neg Ox], (by unfold patR; rw [if_neg Ox]; exact OwnL.nil), .nil hw.below⟩

end Go.Proofs.Ytjeijnjaleldkaa
