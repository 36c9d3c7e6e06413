/- Matrices: exponents. -/
import Derived.Test.YtccbinnlnkpplaaSq
import Derived.Test.YtccbinnlnkpplaaMx1
namespace Go.Proofs.Ytccbinnlnkpplaa
set_option linter.all false
open Go.RowKit

def expo (xs : List Nm) : Int := xs.foldl (fun k z => if k < z.k then z.k else k) 0
theorem expo_succ {xs : List Nm} {i : Nat} (h : i < xs.length) : expo (xs.take (i + 1)) = if expo (xs.take i) < (nm xs i).k then (nm xs i).k else expo (xs.take i) := by
  have e : xs.take (i + 1) = xs.take i ++ [nm xs i] := by
    rw [List.take_succ, List.getElem?_eq_getElem h]
    unfold nm El.at
    rw [List.getD_eq_getElem?_getD, List.getElem?_eq_getElem h]
    rfl
  unfold expo
  rw [e, List.foldl_append]
  rfl
theorem expo_all {xs : List Nm} {i : Nat} (h : xs.length ≤ i) : expo (xs.take i) = expo xs := by rw [List.take_of_length_le h]
set_option maxRecDepth 100000 in
set_option maxHeartbeats 1000000 in
theorem exponent_any (xs : List Nm) (a : Option Addr) (c : Nat) (hl : xs.length ≤ 1000000) (w : World) (hA : AS w a (nms xs)) : Calls Try.prog 89 #[.slice a xs.length c] w fun e w' => e = .returned (.int .i64 (expo xs)) ∧ Below w.heap.size w w' := by
  go_enter Try.func89, Try.ntmps89
  refine wk_start ?_
  refine wk_seq ?_
  refine wk_region [0] rfl Kx ?_
  simp only [qy]
  refine rg_assign ?_
  simp only [qz]
  refine rg_nil (ek_next (wk_seq ?_))
  refine wk_region [0] rfl Kx ?_
  simp only [qy]
  refine rg_assign ?_
  simp only [qz]
  refine rg_nil (ek_next (wk_seq (wk_seq ?_)))
  refine wk_region [0, 0, 0] rfl Kx ?_
  simp only [qy]
  refine rg_move ?_
  simp only [qz]
  refine rf_len rfl rfl rfl Try.underlying36 ?_
  simp only [qz]
  refine rg_move ?_
  simp only [qz]
  refine rg_nil (ek_next (wk_block ?_))
  refine wk_loopF [3, 5, 8, 9, 10, 11, 12, 13, 14, 15, 16] (fun mz f s => ∃ (i : Nat) (k : Int), f 3 = .int .i64 k ∧ f 8 = .int .i64 i ∧ s = [] ∧ mz = xs.length - i ∧ i ≤ xs.length ∧ Hid (expo (xs.take i) = k)) ((fun (i : Nat) (k : Int) => xs.length - i) (0) (0)) ?_ Kx ?_
  · exact ⟨0, 0, rfl, rfl, rfl, rfl, by omega, Lib.hid rfl⟩
  rintro mz f1 s ⟨i, k, hs1_3, hs1_8, rfl, hn, hd1, hd2⟩
  simp only [Act.putF, List.foldl_cons, List.foldl_nil, hs1_3, hs1_8, Act.put, Act.eval, q1, q2, q3, q4, q5, q6, q7, q8, q9, q10, q11, q12, q13, q14, q15, q16, q17, q18, Nat.reduceAdd, Bool.not_true, Bool.not_false]
  clear hs1_3 hs1_8
  have hk := hd2
  clear hd2
  refine wk_seq ?_
  refine wk_region [0] rfl Kx ?_
  simp only [qy]
  refine rfb_lss rfl rfl rfl rfl ?_
  intro x h1
  cases x
  · (try simp only [qd, ne_eq] at h1)
    simp only [qz]
    refine rg_nil (ek_next (wk_seq (wk_cond_f rfl (wk_exit (ek_then_exit (ek_then_exit (ek_block_exit (ek_next (wk_seq ?_)))))))))
    refine wk_region [0, 0] rfl Kx ?_
    simp only [qy]
    refine rg_move ?_
    simp only [qz]
    refine rg_assign ?_
    simp only [qz]
    refine rg_nil (ek_next (wk_ret ?_))
    refine ek_ret (fun w hw => ⟨rfl, _, res_t _ rfl, ?_⟩)
    (try simp only [qz])
    exact ⟨by rw [← hk.out, expo_all Ox], hw.below⟩
  (try simp only [qd, ne_eq] at h1)
  simp only [qz]
  obtain ⟨b, off, rfl, hlt, hcell⟩ := AS.openN hA Ox
  refine rg_nil (ek_next (wk_seq (wk_cond_t rfl (wk_skip (ek_next (wk_seq (wk_block (wk_seq ?_))))))))
  refine wk_region [0, 0, 1, 1] rfl Kx ?_
  simp only [qy]
  refine rf_indexS (n := i) (sz := 5) (j := off + i * 5) rfl rfl rfl rfl Try.underlying36 Kx Ox Ox rfl ?_
  simp only [qz]
  refine rf_loadC (n := 5) (vs := [.int .i64 (nm xs i).a, .int .i64 (nm xs i).b, .int .i64 (nm xs i).c, .int .i64 (nm xs i).d, .int .i64 (nm xs i).k]) rfl rfl rfl Try.underlying45 rfl Kx rfl (fun w hw => atN_range ((hcell i Ox).kn hw hlt (by simp))) ?_
  simp only [qz]
  refine Rgn fun g1 => ?_
  simp only [qz]
  refine rf_storeR (n := 5) rfl rfl Kx rfl rfl (UpdR.here _ _ _ Nl) Nz ?_
  simp only [qz, Nat.reduceAdd]
  refine rg_nil (ek_next ?_)
  refine wk_region [0, 0, 0, 0, 0] rfl Kx ?_
  simp only [qy]
  refine rg_move ?_
  simp only [qz]
  refine rf_field (n := 0) (j := 4) rfl rfl rfl Try.underlying45 rfl Kx rfl ?_
  simp only [qz]
  refine rf_load rfl rfl rfl Try.underlying3 rfl (fun w hw => (Kn.hd0 hw).at rfl) ?_
  simp only [qz]
  apply rg_soft
  case hy => (intro w hw; go_simp; (try go_bits); exact Yld.mk _ _)
  simp only [qz]
  refine rg_assign ?_
  simp only [qz]
  refine rg_nil (ek_block (ek_next ?_))
  refine wk_region [0, 0] rfl Kx ?_
  simp only [qy]
  refine rf_add rfl rfl rfl rfl (wrap_ok Ox Ox) ?_
  simp only [qz]
  refine rg_move ?_
  simp only [qz]
  refine rg_nil ?_
  refine ek_sub (sk _ sn) ?_
  refine ek_roundF (xs.length - (i + 1)) Ox Kx ?_
  exact ⟨i + 1, if k < (nm xs i).k then (nm xs i).k else k, rfl, rfl, by rfl, by rfl, by omega, (Lib.hid (by rw [expo_succ Ox, hk.out]))⟩

def expR (n : Int) (xs : List Nm) : Int × Int := if validB n xs then (expo xs, 0) else (0, 20)
set_option maxRecDepth 100000 in
set_option maxHeartbeats 1000000 in
theorem mExponent_any (n : Int) (xs : List Nm) (a : Option Addr) (c : Nat) (hl : xs.length ≤ 1000000) (w : World) (hA : AS w a (nms xs)) : Calls Try.prog 107 #[.agg #[.int .i64 n, .slice a xs.length c]] w fun e w' => e = .returned (.tuple #[.int .i64 (expR n xs).1, .int .i64 (expR n xs).2]) ∧ Below w.heap.size w w' := by
  go_enter Try.func107, Try.ntmps107
  refine wk_start ?_
  refine wk_seq ?_
  refine wk_region [1, 0, 0] rfl Kx ?_
  simp only [qy]
  refine Rgn fun g1 => ?_
  simp only [qz]
  refine rg_assign ?_
  simp only [qz]
  refine rg_assign ?_
  simp only [qz]
  refine rg_nil (ek_next (wk_seq (wk_seq ?_)))
  refine wk_region [0, 1, 0] rfl Kx ?_
  simp only [qy]
  refine rf_loadR (n := 2) rfl rfl rfl Try.underlying38 rfl Kx (fun w hw => Kn.hd0 hw) rfl rfl ?_
  simp only [qz]
  apply rg_pureb Rx Kx
  case hargs => exact Ax
  case h => exact fun w hw => mvalid_any n xs a c hl w (hA.kn0 hw)
  case hz => exact Nz
  intro x h1
  cases x
  · (try simp only [qd, ne_eq] at h1)
    simp only [qz]
    refine rf_not rfl rfl rfl ?_
    simp only [qz]
    refine rg_nil (ek_next (wk_cond_t rfl (wk_seq ?_)))
    refine wk_region [0, 0] rfl Kx ?_
    simp only [qy]
    refine rg_assign ?_
    simp only [qz]
    refine rg_assign ?_
    simp only [qz]
    refine rg_nil (ek_next (wk_ret (ek_then_ret ?_)))
    refine ek_ret (fun w hw => ⟨rfl, _, res_tt _ _ rfl, ?_⟩)
    (try simp only [qz])
    exact ⟨by unfold expR; simp [*], hw.below⟩
  (try simp only [qd, ne_eq] at h1)
  simp only [qz]
  refine rf_not rfl rfl rfl ?_
  simp only [qz]
  refine rg_nil (ek_next (wk_cond_f rfl (wk_skip (ek_next (wk_seq ?_)))))
  refine wk_region [0, 0, 1, 0, 0] rfl Kx ?_
  simp only [qy]
  refine rf_field (n := 0) (j := 1) rfl rfl rfl Try.underlying38 rfl Kx rfl ?_
  simp only [qz]
  refine rf_load rfl rfl rfl Try.underlying36 rfl (fun w hw => (Kn.hd0 hw).at rfl) ?_
  simp only [qz]
  apply rg_pure Rx Kx
  case hargs => exact Ax
  case h => exact fun w hw => exponent_any xs a c hl w (hA.kn0 hw)
  case hz => exact Nz
  simp only [qz]
  refine rg_assign ?_
  simp only [qz]
  refine rg_assign ?_
  simp only [qz]
  refine rg_nil (ek_next (wk_ret ?_))
  refine ek_ret (fun w hw => ⟨rfl, _, res_tt _ _ rfl, ?_⟩)
  (try simp only [qz])
  exact ⟨by unfold expR; simp [*], hw.below⟩

set_option maxRecDepth 100000 in
set_option maxHeartbeats 1000000 in
theorem rExponent_any (n : Int) (xs : List Nm) (a : Option Addr) (c : Nat) (hl : xs.length ≤ 1000000) (w : World) (hA : AS w a (nms xs)) : Calls Try.prog 67 #[.agg #[.int .i64 n, .slice a xs.length c]] w fun e w' => e = .returned (.tuple #[.int .i64 (expR n xs).1, .int .i64 (expR n xs).2]) ∧ Below w.heap.size w w' := by
  go_enter Try.func67, Try.ntmps67
  refine wk_start ?_
  refine wk_seq ?_
  refine wk_region [1, 0, 0] rfl Kx ?_
  simp only [qy]
  refine Rgn fun g1 => ?_
  simp only [qz]
  refine rg_assign ?_
  simp only [qz]
  refine rg_assign ?_
  simp only [qz]
  refine rg_nil (ek_next (wk_seq (wk_seq ?_)))
  refine wk_region [0, 1, 0] rfl Kx ?_
  simp only [qy]
  refine rf_loadR (n := 2) rfl rfl rfl Try.underlying38 rfl Kx (fun w hw => Kn.hd0 hw) rfl rfl ?_
  simp only [qz]
  apply rg_pureb Rx Kx
  case hargs => exact Ax
  case h => exact fun w hw => rmvalid_any n xs a c hl w (hA.kn0 hw)
  case hz => exact Nz
  intro x h1
  cases x
  · (try simp only [qd, ne_eq] at h1)
    simp only [qz]
    refine rf_not rfl rfl rfl ?_
    simp only [qz]
    refine rg_nil (ek_next (wk_cond_t rfl (wk_seq ?_)))
    refine wk_region [0, 0] rfl Kx ?_
    simp only [qy]
    refine rg_assign ?_
    simp only [qz]
    refine rg_assign ?_
    simp only [qz]
    refine rg_nil (ek_next (wk_ret (ek_then_ret ?_)))
    refine ek_ret (fun w hw => ⟨rfl, _, res_tt _ _ rfl, ?_⟩)
    (try simp only [qz])
    exact ⟨by unfold expR; simp [*], hw.below⟩
  (try simp only [qd, ne_eq] at h1)
  simp only [qz]
  refine rf_not rfl rfl rfl ?_
  simp only [qz]
  refine rg_nil (ek_next (wk_cond_f rfl (wk_skip (ek_next (wk_seq ?_)))))
  refine wk_region [0] rfl Kx ?_
  simp only [qy]
  refine rg_assign ?_
  simp only [qz]
  refine rg_nil (ek_next (wk_seq (wk_seq ?_)))
  refine wk_region [0] rfl Kx ?_
  simp only [qy]
  refine rg_assign ?_
  simp only [qz]
  refine rg_nil (ek_next (wk_block ?_))
  refine wk_loopF [4, 5, 9, 10, 11, 12, 13, 14, 15, 16, 17, 18, 19, 20, 21, 22, 23] (fun mz f s => ∃ (i : Nat) (k : Int), f 2 = .int .i64 0 ∧ f 3 = .int .i64 0 ∧ f 4 = .int .i64 k ∧ f 5 = .int .i64 i ∧ s = ((g1, .cells #[.int .i64 n, .slice a xs.length c] 38) :: []) ∧ mz = xs.length - i ∧ i ≤ xs.length ∧ Hid (expo (xs.take i) = k)) ((fun (i : Nat) (k : Int) => xs.length - i) (0) (0)) ?_ Kx ?_
  · exact ⟨0, 0, rfl, rfl, rfl, rfl, rfl, rfl, by omega, Lib.hid rfl⟩
  rintro mz f1 s ⟨i, k, hs1_2, hs1_3, hs1_4, hs1_5, rfl, hn, hd1, hd2⟩
  simp only [Act.putF, List.foldl_cons, List.foldl_nil, hs1_2, hs1_3, hs1_4, hs1_5, Act.put, Act.eval, q1, q2, q3, q4, q5, q6, q7, q8, q9, q10, q11, q12, q13, q14, q15, q16, q17, q18, Nat.reduceAdd, Bool.not_true, Bool.not_false]
  clear hs1_2 hs1_3 hs1_4 hs1_5
  have hk := hd2
  clear hd2
  refine wk_seq (wk_seq ?_)
  refine wk_region [0, 0, 0, 0, 0] rfl Kx ?_
  simp only [qy]
  refine rg_move ?_
  simp only [qz]
  refine rf_field (n := 0) (j := 1) rfl rfl rfl Try.underlying38 rfl Kx rfl ?_
  simp only [qz]
  refine rf_load rfl rfl rfl Try.underlying36 rfl (fun w hw => (Kn.hd0 hw).at rfl) ?_
  simp only [qz]
  refine rf_len rfl rfl rfl Try.underlying36 ?_
  simp only [qz]
  refine rfb_lss rfl rfl rfl rfl ?_
  intro x h2
  cases x
  · (try simp only [qd, ne_eq] at h2)
    simp only [qz]
    refine rg_nil (ek_next (wk_cond_f rfl (wk_exit (ek_then_exit (ek_then_exit (ek_block_exit (ek_next (wk_seq ?_))))))))
    refine wk_region [0, 0, 0] rfl Kx ?_
    simp only [qy]
    refine rg_move ?_
    simp only [qz]
    refine rg_assign ?_
    simp only [qz]
    refine rg_assign ?_
    simp only [qz]
    refine rg_nil (ek_next (wk_ret ?_))
    refine ek_ret (fun w hw => ⟨rfl, _, res_tt _ _ rfl, ?_⟩)
    (try simp only [qz])
    exact ⟨by unfold expR; simp only [*, if_true]; rw [← hk.out, expo_all Ox], hw.below⟩
  (try simp only [qd, ne_eq] at h2)
  simp only [qz]
  obtain ⟨b, off, ha, hlt, hcell⟩ := AS.openN hA Ox
  subst ha
  refine rg_nil (ek_next (wk_cond_t rfl (wk_skip (ek_next (wk_seq (wk_block ?_))))))
  refine wk_region [0, 0, 0, 0, 0, 0, 0, 0, 0] rfl Kx ?_
  simp only [qy]
  refine rg_move ?_
  simp only [qz]
  refine rf_field (n := 0) (j := 1) rfl rfl rfl Try.underlying38 rfl Kx rfl ?_
  simp only [qz]
  refine rf_load rfl rfl rfl Try.underlying36 rfl (fun w hw => (Kn.hd0 hw).at rfl) ?_
  simp only [qz]
  refine rg_move ?_
  simp only [qz]
  refine rf_indexS (n := i) (sz := 5) (j := off + i * 5) rfl rfl rfl rfl Try.underlying36 Kx Ox Ox rfl ?_
  simp only [qz]
  refine rf_field (n := 0) (j := off + i * 5 + 4) rfl rfl rfl Try.underlying45 rfl Kx rfl ?_
  simp only [qz]
  refine rf_load rfl rfl rfl Try.underlying3 rfl (fun w hw => ((hcell i Ox).kn hw hlt (by simp)).c4) ?_
  simp only [qz]
  apply rg_soft
  case hy => (intro w hw; go_simp; (try go_bits); exact Yld.mk _ _)
  simp only [qz]
  refine rg_assign ?_
  simp only [qz]
  refine rg_nil (ek_block (ek_next ?_))
  refine wk_region [0, 0, 0] rfl Kx ?_
  simp only [qy]
  refine rg_move ?_
  simp only [qz]
  refine rf_add rfl rfl rfl rfl (wrap_ok Ox Ox) ?_
  simp only [qz]
  refine rg_assign ?_
  simp only [qz]
  refine rg_nil ?_
  refine ek_roundF (xs.length - (i + 1)) Ox Kx ?_
  exact ⟨i + 1, if k < (nm xs i).k then (nm xs i).k else k, rfl, rfl, rfl, rfl, by rfl, by rfl, by omega, (Lib.hid (by rw [expo_succ Ox, hk.out]))⟩

end Go.Proofs.Ytccbinnlnkpplaa
