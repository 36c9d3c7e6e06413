/- Photons: how many, products of factorials. -/
import Derived.Test.YtjeijnjaleldkaaSq
import Derived.Test.YtjeijnjaleldkaaChPl
import Derived.Test.YtjeijnjaleldkaaPt0
namespace Go.Proofs.Ytjeijnjaleldkaa
set_option linter.all false
open Go.RowKit

theorem AS.openI {w : World} {a : Option Addr} {xs : List Int} (h : AS w a (zs xs)) (hn : 0 < xs.length) : ∃ b off, a = some ⟨b, off, none⟩ ∧ b < w.heap.size ∧ ∀ j, j < xs.length → w.cell? ⟨b, off + j, none⟩ = some (.int .i64 (gI xs j)) := by
  have hne : zs xs ≠ [] := by intro e; simp at e; subst e; simp at hn
  obtain ⟨b, off, e, hlt, hc⟩ := h hne
  refine ⟨b, off, e, hlt, fun j hj => ?_⟩
  rw [hc j (by simpa using hj), List.getElem?_map, List.getElem?_eq_getElem hj]
  unfold gI
  rw [List.getD_eq_getElem?_getD, List.getElem?_eq_getElem hj]
  rfl
set_option maxRecDepth 100000 in
set_option maxHeartbeats 1000000 in
theorem many_any (xs : List Int) (a : Option Addr) (c : Nat) (hl : xs.length ≤ 1000000) (w : World) (hA : AS w a (zs xs)) : Calls Try.prog 43 #[.slice a xs.length c] w fun e w' => e = .returned (.bool (manyB xs)) ∧ Below w.heap.size w w' := by
  go_enter Try.func43, Try.ntmps43
  refine wk_start ?_
  refine wk_seq ?_
  refine wk_region [0] rfl Kx ?_
  simp only [qy]
  refine rg_assign ?_
  simp only [qz]
  refine rg_nil (ek_next (wk_seq ?_))
  refine wk_region [0] rfl Kx ?_
  simp only [qy]
  refine rg_assign ?_
  simp only [qz]
  refine rg_nil (ek_next (wk_seq (wk_seq ?_)))
  refine wk_region [0] rfl Kx ?_
  simp only [qy]
  refine rg_assign ?_
  simp only [qz]
  refine rg_nil (ek_next (wk_block ?_))
  refine wk_loopF [2, 3, 4, 5, 6, 7, 8, 9, 10, 11, 12, 13, 14, 15, 16, 17, 18, 19, 20, 21, 22, 23, 24, 25, 26, 27, 28] (fun mz f s => ∃ (i : Nat), f 3 = .int .i64 (sT xs i) ∧ f 4 = .int .i64 i ∧ s = [] ∧ mz = xs.length - i ∧ i ≤ xs.length ∧ Hid (∀ j, j < i → 0 ≤ gI xs j ∧ gI xs j ≤ 5) ∧ (0 ≤ sT xs i ∧ sT xs i ≤ 5 * i)) ((fun (i : Nat) => xs.length - i) (0)) ?_ Kx ?_
  · exact ⟨0, rfl, rfl, rfl, rfl, by omega, Lib.hid (fun _ h => by omega), by show (0 : Int) ≤ 0 ∧ (0 : Int) ≤ _; omega⟩
  rintro mz f1 s ⟨i, hs1_3, hs1_4, rfl, hn, hd1, hd2, hd3⟩
  simp only [Act.putF, List.foldl_cons, List.foldl_nil, hs1_3, hs1_4, Act.put, Act.eval, q1, q2, q3, q4, q5, q6, q7, q8, q9, q10, q11, q12, q13, q14, q15, q16, q17, q18, Nat.reduceAdd, Bool.not_true, Bool.not_false]
  clear hs1_3 hs1_4
  refine wk_seq (wk_seq ?_)
  refine wk_region [0, 0, 0, 0] rfl Kx ?_
  simp only [qy]
  refine rg_move ?_
  simp only [qz]
  refine rg_move ?_
  simp only [qz]
  refine rf_len rfl rfl rfl Try.underlying37 ?_
  simp only [qz]
  refine rfb_lss rfl rfl rfl rfl ?_
  intro x h1
  cases x
  · (try simp only [qd, ne_eq] at h1)
    simp only [qz]
    refine rg_nil (ek_next (wk_cond_f rfl (wk_exit (ek_then_exit (ek_then_exit (ek_block_exit (ek_next (wk_seq ?_))))))))
    refine wk_region [0, 0, 0] rfl Kx ?_
    simp only [qy]
    refine rg_move ?_
    simp only [qz]
    refine rf_eql rfl rfl rfl rfl rfl ?_
    simp only [qz]
    refine rg_assign ?_
    simp only [qz]
    refine rg_nil (ek_next (wk_ret ?_))
    refine ek_ret (fun w hw => ⟨rfl, _, res_t _ rfl, ?_⟩)
    (try simp only [qz])
    obtain rfl : i = xs.length := by omega
    have hop := okP_true hd2.out
    exact ⟨by unfold manyB; rw [hop]; rfl, hw.below⟩
  (try simp only [qd, ne_eq] at h1)
  simp only [qz]
  refine rg_nil (ek_next (wk_cond_t rfl (wk_skip (ek_next (wk_seq (wk_block (wk_seq (wk_seq ?_))))))))
  obtain ⟨b, off, rfl, hlt, hcell⟩ := AS.openI hA Ox
  refine wk_region [0, 0, 0, 0, 0, 0, 0, 0, 0, 0, 0, 0] rfl Kx ?_
  simp only [qy]
  refine rg_move ?_
  simp only [qz]
  refine rg_move ?_
  simp only [qz]
  refine rf_indexS (n := i) (sz := 1) (j := off + i) rfl rfl rfl rfl Try.underlying37 Kx Ox Ox Ox ?_
  simp only [qz]
  refine rf_load (v := .int .i64 (gI xs i)) rfl rfl rfl Try.underlying3 rfl (fun w hw => (Kn.cellB hw hlt (by simp) (off + i)).trans (hcell i Ox)) ?_
  simp only [qz]
  refine rfb_lss rfl rfl rfl rfl ?_
  intro x h2
  cases x
  · (try simp only [qd, ne_eq] at h2)
    simp only [qz]
    refine rg_move ?_
    simp only [qz]
    apply rg_soft_g
    case hg => rfl
    case hy => (intro w hw; go_simp; (try go_bits); exact Yld.mk _ _)
    simp only [qz]
    apply rg_soft_g
    case hg => rfl
    case hy => (intro w hw; go_simp; (try go_bits); exact Yld.mk _ _)
    simp only [qz]
    refine rf_indexS (n := i) (sz := 1) (j := off + i) rfl rfl rfl rfl Try.underlying37 Kx Ox Ox Ox ?_
    simp only [qz]
    refine rf_load (v := .int .i64 (gI xs i)) rfl rfl rfl Try.underlying3 rfl (fun w hw => (Kn.cellB hw hlt (by simp) (off + i)).trans (hcell i Ox)) ?_
    simp only [qz]
    refine rfb_gtr rfl rfl rfl rfl ?_
    intro x h3
    cases x
    · (try simp only [qd, ne_eq] at h3)
      simp only [qz]
      refine rf_pick rfl rfl rfl ?_
      simp only [qz]
      refine rg_nil (ek_next (wk_cond_f rfl (wk_skip (ek_next ?_))))
      refine wk_region [0, 0, 0, 0, 0, 0, 0] rfl Kx ?_
      simp only [qy]
      refine rg_move ?_
      simp only [qz]
      refine rg_move ?_
      simp only [qz]
      refine rg_move ?_
      simp only [qz]
      refine rf_indexS (n := i) (sz := 1) (j := off + i) rfl rfl rfl rfl Try.underlying37 Kx Ox Ox Ox ?_
      simp only [qz]
      refine rf_load (v := .int .i64 (gI xs i)) rfl rfl rfl Try.underlying3 rfl (fun w hw => (Kn.cellB hw hlt (by simp) (off + i)).trans (hcell i Ox)) ?_
      simp only [qz]
      refine rf_add rfl rfl rfl rfl (wrap_ok Ox Ox) ?_
      simp only [qz]
      refine rg_assign ?_
      simp only [qz]
      refine rg_nil (ek_block (ek_next ?_))
      refine wk_region [0, 0, 0] rfl Kx ?_
      simp only [qy]
      refine rg_move ?_
      simp only [qz]
      refine rf_add rfl rfl rfl rfl (wrap_ok Ox Ox) ?_
      simp only [qz]
      refine rg_assign ?_
      simp only [qz]
      refine rg_nil ?_
      refine ek_roundF (xs.length - (i + 1)) Ox Kx ?_
      exact ⟨i + 1, rfl, rfl, by rfl, by rfl, Ox, (Lib.hid (fun j hj => by rcases (by omega : j < i ∨ j = i) with h | rfl; exact hd2.out j h; exact ⟨by omega, by omega⟩)), (by show 0 ≤ sT xs i + gI xs i ∧ sT xs i + gI xs i ≤ _; omega)⟩
    (try simp only [qd, ne_eq] at h3)
    simp only [qz]
    refine rf_pick rfl rfl rfl ?_
    simp only [qz]
    refine rg_nil (ek_next (wk_cond_t rfl (wk_seq ?_)))
    refine wk_region [0] rfl Kx ?_
    simp only [qy]
    refine rg_assign ?_
    simp only [qz]
    refine rg_nil (ek_next (wk_ret (ek_then_ret (ek_block_ret (ek_then_ret (ek_then_ret (ek_block_ret (ek_then_ret ?_))))))))
    refine ek_ret (fun w hw => ⟨rfl, _, res_t _ rfl, ?_⟩)
    (try simp only [qz])
    have hop := okP_false (xs := xs) (i := i) Ox Ox
    exact ⟨by unfold manyB; rw [hop]; rfl, hw.below⟩
  (try simp only [qd, ne_eq] at h2)
  simp only [qz]
  refine rg_move ?_
  simp only [qz]
  refine rg_skip Rx ?_
  simp only [qz]
  refine rg_skip Rx ?_
  simp only [qz]
  refine rg_skip Rx ?_
  simp only [qz]
  refine rg_skip Rx ?_
  simp only [qz]
  refine rg_skip Rx ?_
  simp only [qz]
  refine rf_pick rfl rfl rfl ?_
  simp only [qz]
  refine rg_nil (ek_next (wk_cond_t rfl (wk_seq ?_)))
  refine wk_region [0] rfl Kx ?_
  simp only [qy]
  refine rg_assign ?_
  simp only [qz]
  refine rg_nil (ek_next (wk_ret (ek_then_ret (ek_block_ret (ek_then_ret (ek_then_ret (ek_block_ret (ek_then_ret ?_))))))))
  refine ek_ret (fun w hw => ⟨rfl, _, res_t _ rfl, ?_⟩)
  (try simp only [qz])
  have hop := okP_false (xs := xs) (i := i) Ox Ox
  exact ⟨by unfold manyB; rw [hop]; rfl, hw.below⟩

set_option maxRecDepth 100000 in
set_option maxHeartbeats 1000000 in
theorem light_any (xs : List Int) (a : Option Addr) (c : Nat) (hl : xs.length ≤ 1000000) (w : World) (hA : AS w a (zs xs)) : Calls Try.prog 131 #[.slice a xs.length c] w fun e w' => e = .returned (.tuple #[.int .i64 (liN xs), .bool (liB xs)]) ∧ Below w.heap.size w w' := by
  go_enter Try.func131, Try.ntmps131
  refine wk_start ?_
  refine wk_seq ?_
  refine wk_region [0, 0] rfl Kx ?_
  simp only [qy]
  refine rg_assign ?_
  simp only [qz]
  refine rg_assign ?_
  simp only [qz]
  refine rg_nil (ek_next (wk_seq ?_))
  refine wk_region [0] rfl Kx ?_
  simp only [qy]
  refine rg_assign ?_
  simp only [qz]
  refine rg_nil (ek_next (wk_seq (wk_seq ?_)))
  refine wk_region [0] rfl Kx ?_
  simp only [qy]
  refine rg_assign ?_
  simp only [qz]
  refine rg_nil (ek_next (wk_block ?_))
  refine wk_loopF [2, 3, 4, 5, 6, 7, 8, 9, 10, 11, 12, 13, 14, 15, 16, 17, 18, 19, 20, 21, 22, 23, 24, 25, 26, 27, 28, 29] (fun mz f s => ∃ (i : Nat), f 4 = .int .i64 (sT xs i) ∧ f 5 = .int .i64 i ∧ s = [] ∧ mz = xs.length - i ∧ i ≤ xs.length ∧ Hid (∀ j, j < i → 0 ≤ gI xs j ∧ gI xs j ≤ 5) ∧ (0 ≤ sT xs i ∧ sT xs i ≤ 5 * i)) ((fun (i : Nat) => xs.length - i) (0)) ?_ Kx ?_
  · exact ⟨0, rfl, rfl, rfl, rfl, by omega, Lib.hid (fun _ h => by omega), by show (0 : Int) ≤ 0 ∧ (0 : Int) ≤ _; omega⟩
  rintro mz f1 s ⟨i, hs1_4, hs1_5, rfl, hn, hd1, hd2, hd3⟩
  simp only [Act.putF, List.foldl_cons, List.foldl_nil, hs1_4, hs1_5, Act.put, Act.eval, q1, q2, q3, q4, q5, q6, q7, q8, q9, q10, q11, q12, q13, q14, q15, q16, q17, q18, Nat.reduceAdd, Bool.not_true, Bool.not_false]
  clear hs1_4 hs1_5
  refine wk_seq (wk_seq ?_)
  refine wk_region [0, 0, 0, 0] rfl Kx ?_
  simp only [qy]
  refine rg_move ?_
  simp only [qz]
  refine rg_move ?_
  simp only [qz]
  refine rf_len rfl rfl rfl Try.underlying37 ?_
  simp only [qz]
  refine rfb_lss rfl rfl rfl rfl ?_
  intro x h1
  cases x
  · (try simp only [qd, ne_eq] at h1)
    simp only [qz]
    refine rg_nil (ek_next (wk_cond_f rfl (wk_exit (ek_then_exit (ek_then_exit (ek_block_exit (ek_next (wk_seq ?_))))))))
    refine wk_region [0, 0, 0, 0, 0] rfl Kx ?_
    simp only [qy]
    refine rg_move ?_
    simp only [qz]
    refine rg_move ?_
    simp only [qz]
    refine rf_leq rfl rfl rfl rfl rfl ?_
    simp only [qz]
    refine rg_assign ?_
    simp only [qz]
    refine rg_assign ?_
    simp only [qz]
    refine rg_nil (ek_next (wk_ret ?_))
    refine ek_ret (fun w hw => ⟨rfl, _, res_tt _ _ rfl, ?_⟩)
    (try simp only [qz])
    obtain rfl : i = xs.length := by omega
    have hop := okP_true hd2.out
    exact ⟨by unfold liN liB; rw [hop]; rfl, hw.below⟩
  (try simp only [qd, ne_eq] at h1)
  simp only [qz]
  refine rg_nil (ek_next (wk_cond_t rfl (wk_skip (ek_next (wk_seq (wk_block (wk_seq (wk_seq ?_))))))))
  obtain ⟨b, off, rfl, hlt, hcell⟩ := AS.openI hA Ox
  refine wk_region [0, 0, 0, 0, 0, 0, 0, 0, 0, 0, 0, 0] rfl Kx ?_
  simp only [qy]
  refine rg_move ?_
  simp only [qz]
  refine rg_move ?_
  simp only [qz]
  refine rf_indexS (n := i) (sz := 1) (j := off + i) rfl rfl rfl rfl Try.underlying37 Kx Ox Ox Ox ?_
  simp only [qz]
  refine rf_load (v := .int .i64 (gI xs i)) rfl rfl rfl Try.underlying3 rfl (fun w hw => (Kn.cellB hw hlt (by simp) (off + i)).trans (hcell i Ox)) ?_
  simp only [qz]
  refine rfb_lss rfl rfl rfl rfl ?_
  intro x h2
  cases x
  · (try simp only [qd, ne_eq] at h2)
    simp only [qz]
    refine rg_move ?_
    simp only [qz]
    apply rg_soft_g
    case hg => rfl
    case hy => (intro w hw; go_simp; (try go_bits); exact Yld.mk _ _)
    simp only [qz]
    apply rg_soft_g
    case hg => rfl
    case hy => (intro w hw; go_simp; (try go_bits); exact Yld.mk _ _)
    simp only [qz]
    refine rf_indexS (n := i) (sz := 1) (j := off + i) rfl rfl rfl rfl Try.underlying37 Kx Ox Ox Ox ?_
    simp only [qz]
    refine rf_load (v := .int .i64 (gI xs i)) rfl rfl rfl Try.underlying3 rfl (fun w hw => (Kn.cellB hw hlt (by simp) (off + i)).trans (hcell i Ox)) ?_
    simp only [qz]
    refine rfb_gtr rfl rfl rfl rfl ?_
    intro x h3
    cases x
    · (try simp only [qd, ne_eq] at h3)
      simp only [qz]
      refine rf_pick rfl rfl rfl ?_
      simp only [qz]
      refine rg_nil (ek_next (wk_cond_f rfl (wk_skip (ek_next ?_))))
      refine wk_region [0, 0, 0, 0, 0, 0, 0] rfl Kx ?_
      simp only [qy]
      refine rg_move ?_
      simp only [qz]
      refine rg_move ?_
      simp only [qz]
      refine rg_move ?_
      simp only [qz]
      refine rf_indexS (n := i) (sz := 1) (j := off + i) rfl rfl rfl rfl Try.underlying37 Kx Ox Ox Ox ?_
      simp only [qz]
      refine rf_load (v := .int .i64 (gI xs i)) rfl rfl rfl Try.underlying3 rfl (fun w hw => (Kn.cellB hw hlt (by simp) (off + i)).trans (hcell i Ox)) ?_
      simp only [qz]
      refine rf_add rfl rfl rfl rfl (wrap_ok Ox Ox) ?_
      simp only [qz]
      refine rg_assign ?_
      simp only [qz]
      refine rg_nil (ek_block (ek_next ?_))
      refine wk_region [0, 0, 0] rfl Kx ?_
      simp only [qy]
      refine rg_move ?_
      simp only [qz]
      refine rf_add rfl rfl rfl rfl (wrap_ok Ox Ox) ?_
      simp only [qz]
      refine rg_assign ?_
      simp only [qz]
      refine rg_nil ?_
      refine ek_roundF (xs.length - (i + 1)) Ox Kx ?_
      exact ⟨i + 1, rfl, rfl, by rfl, by rfl, Ox, (Lib.hid (fun j hj => by rcases (by omega : j < i ∨ j = i) with h | rfl; exact hd2.out j h; exact ⟨by omega, by omega⟩)), (by show 0 ≤ sT xs i + gI xs i ∧ sT xs i + gI xs i ≤ _; omega)⟩
    (try simp only [qd, ne_eq] at h3)
    simp only [qz]
    refine rf_pick rfl rfl rfl ?_
    simp only [qz]
    refine rg_nil (ek_next (wk_cond_t rfl (wk_seq ?_)))
    refine wk_region [0, 0] rfl Kx ?_
    simp only [qy]
    refine rg_assign ?_
    simp only [qz]
    refine rg_assign ?_
    simp only [qz]
    refine rg_nil (ek_next (wk_ret (ek_then_ret (ek_block_ret (ek_then_ret (ek_then_ret (ek_block_ret (ek_then_ret ?_))))))))
    refine ek_ret (fun w hw => ⟨rfl, _, res_tt _ _ rfl, ?_⟩)
    (try simp only [qz])
    have hop := okP_false (xs := xs) (i := i) Ox Ox
    exact ⟨by unfold liN liB; rw [hop]; rfl, hw.below⟩
  (try simp only [qd, ne_eq] at h2)
  simp only [qz]
  refine rg_move ?_
  simp only [qz]
  refine rg_skip Rx ?_
  simp only [qz]
  refine rg_skip Rx ?_
  simp only [qz]
  refine rg_skip Rx ?_
  simp only [qz]
  refine rg_skip Rx ?_
  simp only [qz]
  refine rg_skip Rx ?_
  simp only [qz]
  refine rf_pick rfl rfl rfl ?_
  simp only [qz]
  refine rg_nil (ek_next (wk_cond_t rfl (wk_seq ?_)))
  refine wk_region [0, 0] rfl Kx ?_
  simp only [qy]
  refine rg_assign ?_
  simp only [qz]
  refine rg_assign ?_
  simp only [qz]
  refine rg_nil (ek_next (wk_ret (ek_then_ret (ek_block_ret (ek_then_ret (ek_then_ret (ek_block_ret (ek_then_ret ?_))))))))
  refine ek_ret (fun w hw => ⟨rfl, _, res_tt _ _ rfl, ?_⟩)
  (try simp only [qz])
  have hop := okP_false (xs := xs) (i := i) Ox Ox
  exact ⟨by unfold liN liB; rw [hop]; rfl, hw.below⟩

set_option maxRecDepth 100000 in
set_option maxHeartbeats 1000000 in
theorem mfac_any (xs : List Int) (a : Option Addr) (c : Nat) (hl : xs.length ≤ 1000000) (hok : okP xs = true) (h5 : sT xs xs.length ≤ 5) (w : World) (hA : AS w a (zs xs)) : Calls Try.prog 95 #[.slice a xs.length c] w fun e w' => e = .returned (.int .i64 (fT xs xs.length)) ∧ Below w.heap.size w w' := by
  go_enter Try.func95, Try.ntmps95
  refine wk_start ?_
  refine wk_seq ?_
  refine wk_region [0] rfl Kx ?_
  simp only [qy]
  refine rg_assign ?_
  simp only [qz]
  refine rg_nil (ek_next (wk_seq ?_))
  refine wk_region [0] rfl Kx ?_
  simp only [qy]
  refine rg_assign ?_
  simp only [qz]
  refine rg_nil (ek_next (wk_seq (wk_seq ?_)))
  refine wk_region [0, 0, 0] rfl Kx ?_
  simp only [qy]
  refine rg_move ?_
  simp only [qz]
  refine rf_len rfl rfl rfl Try.underlying37 ?_
  simp only [qz]
  refine rg_move ?_
  simp only [qz]
  refine rg_nil (ek_next (wk_block ?_))
  refine wk_loopF [3, 5, 6, 9, 10, 11, 12, 13, 14, 15, 16, 17, 18, 19, 20, 21] (fun mz f s => ∃ (i : Nat) (all : Int), f 3 = .int .i64 all ∧ f 9 = .int .i64 i ∧ s = [] ∧ mz = xs.length - i ∧ i ≤ xs.length ∧ Hid (fT xs i = all)) ((fun (i : Nat) (all : Int) => xs.length - i) (0) (1)) ?_ Kx ?_
  · exact ⟨0, 1, rfl, rfl, rfl, rfl, by omega, Lib.hid rfl⟩
  rintro mz f1 s ⟨i, all, hs1_3, hs1_9, rfl, hn, hd1, hd2⟩
  simp only [Act.putF, List.foldl_cons, List.foldl_nil, hs1_3, hs1_9, Act.put, Act.eval, q1, q2, q3, q4, q5, q6, q7, q8, q9, q10, q11, q12, q13, q14, q15, q16, q17, q18, Nat.reduceAdd, Bool.not_true, Bool.not_false]
  clear hs1_3 hs1_9
  have hall := hd2
  refine wk_seq ?_
  refine wk_region [0] rfl Kx ?_
  simp only [qy]
  refine rfb_lss rfl rfl rfl rfl ?_
  intro x h1
  cases x
  · (try simp only [qd, ne_eq] at h1)
    simp only [qz]
    refine rg_nil (ek_next (wk_seq (wk_cond_f rfl (wk_exit (ek_then_exit (ek_then_exit (ek_block_exit (ek_next (wk_seq ?_)))))))))
    refine wk_region [0, 0] rfl Kx ?_
    simp only [qy]
    refine rg_move ?_
    simp only [qz]
    refine rg_assign ?_
    simp only [qz]
    refine rg_nil (ek_next (wk_ret ?_))
    refine ek_ret (fun w hw => ⟨rfl, _, res_t _ rfl, ?_⟩)
    (try simp only [qz])
    obtain rfl : i = xs.length := by omega
    exact ⟨by rw [hall.out], hw.below⟩
  (try simp only [qd, ne_eq] at h1)
  simp only [qz]
  refine rg_nil (ek_next (wk_seq (wk_cond_t rfl (wk_skip (ek_next (wk_seq (wk_block (wk_seq ?_))))))))
  obtain ⟨b, off, rfl, hlt, hcell⟩ := AS.openI hA Ox
  have hx5 := okP_at hok (i := i) Ox
  refine wk_region [0, 0, 0] rfl Kx ?_
  simp only [qy]
  refine rf_indexS (n := i) (sz := 1) (j := off + i) rfl rfl rfl rfl Try.underlying37 Kx Ox Ox Ox ?_
  simp only [qz]
  refine rf_load (v := .int .i64 (gI xs i)) rfl rfl rfl Try.underlying3 rfl (fun w hw => (Kn.cellB hw hlt (by simp) (off + i)).trans (hcell i Ox)) ?_
  simp only [qz]
  refine rg_assign ?_
  simp only [qz]
  refine rg_nil (ek_next (wk_seq ?_))
  refine wk_region [0] rfl Kx ?_
  simp only [qy]
  refine rg_assign ?_
  simp only [qz]
  refine rg_nil (ek_next (wk_block ?_))
  refine wk_loopF [3, 6, 13, 14, 15, 16, 17, 18, 19, 20] (fun mz f s => ∃ (m : Nat) (v : Int), f 3 = .int .i64 v ∧ f 6 = .int .i64 ((m : Int) + 2) ∧ s = [] ∧ mz = (gI xs i).toNat - m ∧ m ≤ (gI xs i).toNat - 1 ∧ Hid (fT xs i * fm m = v)) ((fun (m : Nat) (v : Int) => (gI xs i).toNat - m) (0) (all)) ?_ Kx ?_
  · exact ⟨0, all, rfl, rfl, rfl, rfl, by omega, Lib.hid (by rw [hall.out]; exact Int.mul_one _)⟩
  rintro mz f2 s ⟨m, v, hs2_3, hs2_6, rfl, hn, he1, he2⟩
  simp only [Act.putF, List.foldl_cons, List.foldl_nil, hs2_3, hs2_6, Act.put, Act.eval, q1, q2, q3, q4, q5, q6, q7, q8, q9, q10, q11, q12, q13, q14, q15, q16, q17, q18, Nat.reduceAdd, Bool.not_true, Bool.not_false]
  clear hs2_3 hs2_6
  have hv := he2
  clear he2
  refine wk_seq (wk_seq ?_)
  refine wk_region [0, 0, 0] rfl Kx ?_
  simp only [qy]
  refine rg_move ?_
  simp only [qz]
  refine rg_move ?_
  simp only [qz]
  refine rfb_leq rfl rfl rfl rfl ?_
  intro x h2
  cases x
  · (try simp only [qd, ne_eq] at h2)
    simp only [qz]
    refine rg_nil (ek_next (wk_cond_f rfl (wk_exit (ek_then_exit (ek_then_exit (ek_block_exit (ek_block (ek_next ?_))))))))
    refine wk_region [0, 0] rfl Kx ?_
    simp only [qy]
    refine rf_add rfl rfl rfl rfl (wrap_ok Ox Ox) ?_
    simp only [qz]
    refine rg_move ?_
    simp only [qz]
    refine rg_nil ?_
    have hmx : m = (gI xs i).toNat - 1 := by omega
    subst hmx
    refine ek_roundF (xs.length - (i + 1)) Ox Kx ?_
    exact ⟨i + 1, v, rfl, rfl, by rfl, by rfl, Ox, (Lib.hid (by rw [fT, hv.out]))⟩
  (try simp only [qd, ne_eq] at h2)
  simp only [qz]
  refine rg_nil (ek_next (wk_cond_t rfl (wk_skip (ek_next (wk_seq (wk_block ?_))))))
  have hvb := fv_bd hok h5 (i := i) (m := m) Ox Ox hv.out
  refine wk_region [0, 0, 0, 0] rfl Kx ?_
  simp only [qy]
  refine rg_move ?_
  simp only [qz]
  refine rg_move ?_
  simp only [qz]
  refine rf_mul rfl rfl rfl rfl (wrap_ok Ox Ox) ?_
  simp only [qz]
  refine rg_assign ?_
  simp only [qz]
  refine rg_nil (ek_block (ek_next ?_))
  refine wk_region [0, 0, 0] rfl Kx ?_
  simp only [qy]
  refine rg_move ?_
  simp only [qz]
  refine rf_add rfl rfl rfl rfl (wrap_ok Ox Ox) ?_
  simp only [qz]
  refine rg_assign ?_
  simp only [qz]
  refine rg_nil ?_
  refine ek_roundF ((gI xs i).toNat - (m + 1)) Ox Kx ?_
  exact ⟨m + 1, v * ((m : Int) + 2), rfl, rfl, by rfl, by rfl, Ox, (Lib.hid (by rw [fm, ← Int.mul_assoc, hv.out]))⟩

set_option maxRecDepth 100000 in
set_option maxHeartbeats 1000000 in
theorem rfac_any (xs : List Int) (a : Option Addr) (c : Nat) (hl : xs.length ≤ 1000000) (hok : okP xs = true) (h5 : sT xs xs.length ≤ 5) (w : World) (hA : AS w a (zs xs)) : Calls Try.prog 96 #[.slice a xs.length c] w fun e w' => e = .returned (.int .i64 (fT xs xs.length)) ∧ Below w.heap.size w w' := by
  go_enter Try.func96, Try.ntmps96
  refine wk_start ?_
  refine wk_seq ?_
  refine wk_region [0] rfl Kx ?_
  simp only [qy]
  refine rg_assign ?_
  simp only [qz]
  refine rg_nil (ek_next (wk_seq ?_))
  refine wk_region [0] rfl Kx ?_
  simp only [qy]
  refine rg_assign ?_
  simp only [qz]
  refine rg_nil (ek_next (wk_seq (wk_seq ?_)))
  refine wk_region [0] rfl Kx ?_
  simp only [qy]
  refine rg_assign ?_
  simp only [qz]
  refine rg_nil (ek_next (wk_block ?_))
  refine wk_loopF [3, 4, 5, 6, 7, 8, 9, 10, 11, 12, 13, 14, 15, 16, 17, 18, 19, 20, 21, 22] (fun mz f s => ∃ (i : Nat) (all : Int), f 3 = .int .i64 all ∧ f 4 = .int .i64 i ∧ s = [] ∧ mz = xs.length - i ∧ i ≤ xs.length ∧ Hid (fT xs i = all)) ((fun (i : Nat) (all : Int) => xs.length - i) (0) (1)) ?_ Kx ?_
  · exact ⟨0, 1, rfl, rfl, rfl, rfl, by omega, Lib.hid rfl⟩
  rintro mz f1 s ⟨i, all, hs1_3, hs1_4, rfl, hn, hd1, hd2⟩
  simp only [Act.putF, List.foldl_cons, List.foldl_nil, hs1_3, hs1_4, Act.put, Act.eval, q1, q2, q3, q4, q5, q6, q7, q8, q9, q10, q11, q12, q13, q14, q15, q16, q17, q18, Nat.reduceAdd, Bool.not_true, Bool.not_false]
  clear hs1_3 hs1_4
  have hall := hd2
  refine wk_seq (wk_seq ?_)
  refine wk_region [0, 0, 0, 0] rfl Kx ?_
  simp only [qy]
  refine rg_move ?_
  simp only [qz]
  refine rg_move ?_
  simp only [qz]
  refine rf_len rfl rfl rfl Try.underlying37 ?_
  simp only [qz]
  refine rfb_lss rfl rfl rfl rfl ?_
  intro x h1
  cases x
  · (try simp only [qd, ne_eq] at h1)
    simp only [qz]
    refine rg_nil (ek_next (wk_cond_f rfl (wk_exit (ek_then_exit (ek_then_exit (ek_block_exit (ek_next (wk_seq ?_))))))))
    refine wk_region [0, 0] rfl Kx ?_
    simp only [qy]
    refine rg_move ?_
    simp only [qz]
    refine rg_assign ?_
    simp only [qz]
    refine rg_nil (ek_next (wk_ret ?_))
    refine ek_ret (fun w hw => ⟨rfl, _, res_t _ rfl, ?_⟩)
    (try simp only [qz])
    obtain rfl : i = xs.length := by omega
    exact ⟨by rw [hall.out], hw.below⟩
  (try simp only [qd, ne_eq] at h1)
  simp only [qz]
  refine rg_nil (ek_next (wk_cond_t rfl (wk_skip (ek_next (wk_seq (wk_block (wk_seq ?_)))))))
  obtain ⟨b, off, rfl, hlt, hcell⟩ := AS.openI hA Ox
  have hx5 := okP_at hok (i := i) Ox
  refine wk_region [0] rfl Kx ?_
  simp only [qy]
  refine rg_assign ?_
  simp only [qz]
  refine rg_nil (ek_next (wk_block ?_))
  refine wk_loopF [3, 5, 12, 13, 14, 15, 16, 17, 18, 19, 20, 21, 22] (fun mz f s => ∃ (m : Nat) (v : Int), f 3 = .int .i64 v ∧ f 5 = .int .i64 ((m : Int) + 2) ∧ s = [] ∧ mz = (gI xs i).toNat - m ∧ m ≤ (gI xs i).toNat - 1 ∧ Hid (fT xs i * fm m = v)) ((fun (m : Nat) (v : Int) => (gI xs i).toNat - m) (0) (all)) ?_ Kx ?_
  · exact ⟨0, all, rfl, rfl, rfl, rfl, by omega, Lib.hid (by rw [hall.out]; exact Int.mul_one _)⟩
  rintro mz f2 s ⟨m, v, hs2_3, hs2_5, rfl, hn, he1, he2⟩
  simp only [Act.putF, List.foldl_cons, List.foldl_nil, hs2_3, hs2_5, Act.put, Act.eval, q1, q2, q3, q4, q5, q6, q7, q8, q9, q10, q11, q12, q13, q14, q15, q16, q17, q18, Nat.reduceAdd, Bool.not_true, Bool.not_false]
  clear hs2_3 hs2_5
  have hv := he2
  clear he2
  refine wk_seq (wk_seq ?_)
  refine wk_region [0, 0, 0, 0, 0, 0] rfl Kx ?_
  simp only [qy]
  refine rg_move ?_
  simp only [qz]
  refine rg_move ?_
  simp only [qz]
  refine rg_move ?_
  simp only [qz]
  refine rf_indexS (n := i) (sz := 1) (j := off + i) rfl rfl rfl rfl Try.underlying37 Kx Ox Ox Ox ?_
  simp only [qz]
  refine rf_load (v := .int .i64 (gI xs i)) rfl rfl rfl Try.underlying3 rfl (fun w hw => (Kn.cellB hw hlt (by simp) (off + i)).trans (hcell i Ox)) ?_
  simp only [qz]
  refine rfb_leq rfl rfl rfl rfl ?_
  intro x h2
  cases x
  · (try simp only [qd, ne_eq] at h2)
    simp only [qz]
    refine rg_nil (ek_next (wk_cond_f rfl (wk_exit (ek_then_exit (ek_then_exit (ek_block_exit (ek_block (ek_next ?_))))))))
    refine wk_region [0, 0, 0] rfl Kx ?_
    simp only [qy]
    refine rg_move ?_
    simp only [qz]
    refine rf_add rfl rfl rfl rfl (wrap_ok Ox Ox) ?_
    simp only [qz]
    refine rg_assign ?_
    simp only [qz]
    refine rg_nil ?_
    have hmx : m = (gI xs i).toNat - 1 := by omega
    subst hmx
    refine ek_roundF (xs.length - (i + 1)) Ox Kx ?_
    exact ⟨i + 1, v, rfl, rfl, by rfl, by rfl, Ox, (Lib.hid (by rw [fT, hv.out]))⟩
  (try simp only [qd, ne_eq] at h2)
  simp only [qz]
  refine rg_nil (ek_next (wk_cond_t rfl (wk_skip (ek_next (wk_seq (wk_block ?_))))))
  have hvb := fv_bd hok h5 (i := i) (m := m) Ox Ox hv.out
  refine wk_region [0, 0, 0, 0] rfl Kx ?_
  simp only [qy]
  refine rg_move ?_
  simp only [qz]
  refine rg_move ?_
  simp only [qz]
  refine rf_mul rfl rfl rfl rfl (wrap_ok Ox Ox) ?_
  simp only [qz]
  refine rg_assign ?_
  simp only [qz]
  refine rg_nil (ek_block (ek_next ?_))
  refine wk_region [0, 0, 0] rfl Kx ?_
  simp only [qy]
  refine rg_move ?_
  simp only [qz]
  refine rf_add rfl rfl rfl rfl (wrap_ok Ox Ox) ?_
  simp only [qz]
  refine rg_assign ?_
  simp only [qz]
  refine rg_nil ?_
  refine ek_roundF ((gI xs i).toNat - (m + 1)) Ox Kx ?_
  exact ⟨m + 1, v * ((m : Int) + 2), rfl, rfl, by rfl, by rfl, Ox, (Lib.hid (by rw [fm, ← Int.mul_assoc, hv.out]))⟩

end Go.Proofs.Ytjeijnjaleldkaa
