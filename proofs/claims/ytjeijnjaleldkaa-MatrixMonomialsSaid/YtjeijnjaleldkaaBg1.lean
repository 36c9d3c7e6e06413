/- Digits: without zeros at the end. -/
import Derived.Test.YtjeijnjaleldkaaSq
import Derived.Test.YtjeijnjaleldkaaBg
namespace Go.Proofs.Ytjeijnjaleldkaa
set_option linter.all false
open Go.RowKit

set_option maxRecDepth 100000 in
set_option maxHeartbeats 1000000 in
theorem trimmed_any (xs : List Int) (a : Option Addr) (c : Nat) (hd : Dg xs) (hc : xs.length ≤ c) (hl : xs.length ≤ 1000000) (w : World) (hA : AS w a (us xs)) : Calls Try.prog 141 #[.slice a xs.length c] w fun e w' => ∃ m, m ≤ xs.length ∧ e = .returned (.slice a m c) ∧ (∀ j, m ≤ j → dig xs j = 0) ∧ (m = 0 ∨ dig xs (m - 1) ≠ 0) ∧ Below w.heap.size w w' := by
  go_enter Try.func141, Try.ntmps141
  refine wk_start ?_
  refine wk_seq ?_
  refine wk_region [0] rfl Kx ?_
  simp only [qy]
  refine rg_assign ?_
  simp only [qz]
  refine rg_nil (ek_next (wk_seq (wk_block ?_)))
  refine wk_loopF [0, 3, 4, 5, 6, 7, 8, 9, 10, 11, 12, 13, 14, 15, 16, 17, 18, 19] (fun mz f s => ∃ (m : Nat), f 0 = .slice a m c ∧ f 2 = .slice none 0 0 ∧ s = [] ∧ mz = m ∧ m ≤ xs.length ∧ (∀ j, m ≤ j → dig xs j = 0)) ((fun (m : Nat) => m) (xs.length)) ?_ Kx ?_
  · exact ⟨xs.length, rfl, rfl, rfl, rfl, by omega, fun j hj => dig_out hj⟩
  rintro mz f1 s ⟨m, hs1_0, hs1_2, rfl, hn, hc1, hc2⟩
  simp only [Act.putF, List.foldl_cons, List.foldl_nil, hs1_0, hs1_2, Act.put, Act.eval, q1, q2, q3, q4, q5, q6, q7, q8, q9, q10, q11, q12, q13, q14, q15, q16, q17, q18, Nat.reduceAdd, Bool.not_true, Bool.not_false]
  clear hs1_0 hs1_2
  refine wk_seq (wk_seq ?_)
  refine wk_region [0, 0, 0, 0, 0, 0, 0, 0, 0, 0, 0, 0] rfl Kx ?_
  simp only [qy]
  refine rg_move ?_
  simp only [qz]
  refine rf_len rfl rfl rfl Try.underlying68 ?_
  simp only [qz]
  refine rfb_gtr rfl rfl rfl rfl ?_
  intro x h1
  cases x
  · (try simp only [qd, ne_eq] at h1)
    simp only [qz]
    refine rg_move ?_
    simp only [qz]
    refine rg_skip Rx ?_
    simp only [qz]
    refine rg_skip Rx ?_
    simp only [qz]
    refine rg_skip Rx ?_
    simp only [qz]
    refine rg_skip Rx ?_
    simp only [qz]
    refine rg_skip Rx ?_
    simp only [qz]
    refine rg_skip Rx ?_
    simp only [qz]
    refine rg_skip Rx ?_
    simp only [qz]
    refine rf_pick rfl rfl rfl ?_
    simp only [qz]
    refine rg_nil (ek_next (wk_cond_f rfl (wk_exit (ek_then_exit (ek_then_exit (ek_block_exit (ek_next (wk_seq ?_))))))))
    refine wk_region [0, 0] rfl Kx ?_
    simp only [qy]
    refine rg_move ?_
    simp only [qz]
    refine rg_assign ?_
    simp only [qz]
    refine rg_nil (ek_next (wk_ret ?_))
    refine ek_ret (fun w hw => ⟨rfl, _, res_t _ rfl, ?_⟩)
    (try simp only [qz])
    exact ⟨m, hc1, rfl, hc2, Or.inl Ox, hw.below⟩
  (try simp only [qd, ne_eq] at h1)
  simp only [qz]
  obtain ⟨b, off, rfl, hlt, hcell⟩ := AS.openU hA Ox
  have hdg := hd.at (m - 1)
  refine rg_move ?_
  simp only [qz]
  apply rg_soft_g
  case hg => rfl
  case hy => (intro w hw; go_simp; (try go_bits); exact Yld.mk _ _)
  simp only [qz]
  apply rg_soft_g
  case hg => rfl
  case hy => (intro w hw; go_simp; (try go_bits); exact Yld.mk _ _)
  simp only [qz]
  refine rf_len rfl rfl rfl Try.underlying68 ?_
  simp only [qz]
  refine rf_sub rfl rfl rfl rfl (wrap_ok Ox Ox) ?_
  simp only [qz]
  refine rf_indexS (n := m - 1) (sz := 1) (j := off + (m - 1) * 1) rfl rfl rfl rfl Try.underlying68 Kx Ox Ox rfl ?_
  simp only [qz]
  refine rf_load rfl rfl rfl Try.underlying153 rfl (fun w hw => (by have := (Kn.cellB hw hlt (by simp) (off + (m - 1))).trans (hcell (m - 1) Ox); simpa using this)) ?_
  simp only [qz]
  refine rfb_eql rfl rfl rfl rfl ?_
  intro x h2
  cases x
  · (try simp only [qd, ne_eq] at h2)
    simp only [qz]
    refine rf_pick rfl rfl rfl ?_
    simp only [qz]
    refine rg_nil (ek_next (wk_cond_f rfl (wk_exit (ek_then_exit (ek_then_exit (ek_block_exit (ek_next (wk_seq ?_))))))))
    refine wk_region [0, 0] rfl Kx ?_
    simp only [qy]
    refine rg_move ?_
    simp only [qz]
    refine rg_assign ?_
    simp only [qz]
    refine rg_nil (ek_next (wk_ret ?_))
    refine ek_ret (fun w hw => ⟨rfl, _, res_t _ rfl, ?_⟩)
    (try simp only [qz])
    exact ⟨m, hc1, rfl, hc2, Or.inr Ox, hw.below⟩
  (try simp only [qd, ne_eq] at h2)
  simp only [qz]
  refine rf_pick rfl rfl rfl ?_
  simp only [qz]
  refine rg_nil (ek_next (wk_cond_t rfl (wk_skip (ek_next (wk_block ?_)))))
  refine wk_region [0, 0, 0, 0, 0, 0] rfl Kx ?_
  simp only [qy]
  refine rg_move ?_
  simp only [qz]
  refine rg_move ?_
  simp only [qz]
  refine rf_len rfl rfl rfl Try.underlying68 ?_
  simp only [qz]
  refine rf_sub rfl rfl rfl rfl (wrap_ok Ox Ox) ?_
  simp only [qz]
  refine rf_sliceTo (n := m - 1) (sz := 1) rfl rfl rfl rfl Try.underlying68 Kx Ox Ox ?_
  simp only [qz]
  refine rg_assign ?_
  simp only [qz]
  refine rg_nil (ek_block ?_)
  refine ek_roundF (m - 1) Ox Kx ?_
  exact ⟨m - 1, rfl, rfl, by rfl, by rfl, by omega, fun j hj => if he : j = m - 1 then (by subst he; omega) else hc2 j Ox⟩

end Go.Proofs.Ytjeijnjaleldkaa
