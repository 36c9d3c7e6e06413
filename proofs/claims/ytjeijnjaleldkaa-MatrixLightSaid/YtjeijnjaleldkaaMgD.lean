/- Several texts in one. -/
import Derived.Test.YtjeijnjaleldkaaSq
import Derived.Test.YtjeijnjaleldkaaMt2a
import Derived.Test.YtjeijnjaleldkaaAlPl
import Derived.Test.YtjeijnjaleldkaaAm5
import Derived.Test.YtjeijnjaleldkaaAmPw
import Derived.Test.YtjeijnjaleldkaaMgC
import Derived.Test.YtjeijnjaleldkaaMt4
namespace Go.Proofs.Ytjeijnjaleldkaa
set_option linter.all false
open Go.RowKit

set_option maxRecDepth 100000 in
set_option maxHeartbeats 1000000 in
theorem products_any (n : Nat) (hn6 : n ≤ 6) (x y : Nat → Nm) (fv : Value) (hx : ∀ k, k < n → (x k).Ok) (hy : ∀ k, k < n → (y k).Ok) (w : World) (hF : FnV w fv (D1 n fun k => .tuple #[nmV (x k), nmV (y k)])) : Calls Try.prog 98 #[.int .i64 n, fv] w fun e w' => e = .returned (numV (prodsR x y n)) ∧ Below w.heap.size w w' := by
  go_enter Try.func98, Try.ntmps98
  refine wk_start ?_
  refine wk_seq ?_
  refine wk_region [1, 0] rfl Kx ?_
  simp only [qy]
  refine Rgn fun g1 => ?_
  simp only [qz]
  refine rg_assign ?_
  simp only [qz]
  refine rg_nil (ek_next (wk_seq ?_))
  refine wk_region [1] rfl Kx ?_
  simp only [qy]
  refine Rgn fun g2 => ?_
  simp only [qz]
  refine rg_nil (ek_next (wk_seq (wk_seq ?_)))
  refine wk_region [0, 0] rfl Kx ?_
  simp only [qy]
  refine rg_move ?_
  simp only [qz]
  refine rg_move ?_
  simp only [qz]
  refine rg_nil (ek_next (wk_block ?_))
  refine wk_loopF [5, 7, 8, 9, 10, 11, 13, 14, 15, 16, 17, 18, 19, 20, 21, 22, 23, 24, 25, 26, 27, 28, 29, 30, 31, 32, 33, 34, 35, 36, 37, 38, 39, 40, 41, 42] (fun mz f s => ∃ (k : Nat) (ac : Nm), f 13 = .int .i64 k ∧ s = ((g2, .cells #[.int .i64 ac.a, .int .i64 ac.b, .int .i64 ac.c, .int .i64 ac.d, .int .i64 ac.k] 29) :: ((g1, .cells #[.int .i64 0, .int .i64 0, .int .i64 0, .int .i64 0, .int .i64 0] 29) :: [])) ∧ mz = n - k ∧ k ≤ n ∧ Hid (prodsR x y k = .ok ac) ∧ ac.Ok) ((fun (k : Nat) (ac : Nm) => n - k) (0) (Nm.zero)) ?_ Kx ?_
  · exact ⟨0, Nm.zero, rfl, rfl, rfl, by omega, (Lib.hid rfl), zero_ok⟩
  rintro mz f1 s ⟨k, ac, hs1_13, rfl, hn, hd1, hd2, hd3⟩
  simp only [Act.putF, List.foldl_cons, List.foldl_nil, hs1_13, Act.put, Act.eval, q1, q2, q3, q4, q5, q6, q7, q8, q9, q10, q11, q12, q13, q14, q15, q16, q17, q18, Nat.reduceAdd, Bool.not_true, Bool.not_false]
  clear hs1_13
  refine wk_seq ?_
  refine wk_region [0] rfl Kx ?_
  simp only [qy]
  refine rfb_lss rfl rfl rfl rfl ?_
  intro x h1
  cases x
  · (try simp only [qd, ne_eq] at h1)
    simp only [qz]
    refine rg_nil (ek_next (wk_seq (wk_cond_f rfl (wk_exit (ek_then_exit (ek_then_exit (ek_block_exit (ek_next (wk_seq ?_)))))))))
    refine wk_region [0, 1, 0] rfl Kx ?_
    simp only [qy]
    refine rf_loadR (n := 5) rfl rfl rfl Try.underlying29 rfl Kx (fun w hw => Kn.hd0 hw) rfl rfl ?_
    simp only [qz]
    refine rf_storeR (n := 5) rfl rfl Kx rfl rfl (UpdR.there _ (UpdR.here _ _ _ Nl)) Nz ?_
    simp only [qz, Nat.reduceAdd]
    refine rg_assign ?_
    simp only [qz]
    refine rg_nil (ek_next (wk_ret ?_))
    refine ek_ret (fun w hw => ⟨rfl, _, run_results2 rfl rfl (Kn.hd0 (Kn.tl hw)) Try.underlying29 rfl Kx, ?_⟩)
    (try simp only [qz])
    obtain rfl : n = k := by omega
    exact ⟨by rw [hd2.out]; rfl, hw.below⟩
  (try simp only [qd, ne_eq] at h1)
  simp only [qz]
  refine rg_nil (ek_next (wk_seq (wk_cond_t rfl (wk_skip (ek_next (wk_seq (wk_block (wk_seq ?_))))))))
  refine wk_region [0, 0] rfl Kx ?_
  simp only [qy]
  refine rg_move ?_
  simp only [qz]
  refine rg_assign ?_
  simp only [qz]
  refine rg_nil (ek_next (wk_seq ?_))
  refine wk_region [0, 0, 1, 0, 0, 0, 1, 1, 1, 1] rfl Kx ?_
  simp only [qy]
  refine rg_move ?_
  simp only [qz]
  refine rg_move ?_
  simp only [qz]
  have hxk := hx k Ox
  have hyk := hy k Ox
  refine rg_fnv (.tuple #[nmV (x k), nmV (y k)]) Rx hF rfl (by simp only [qm, qs, Act.eval] <;> rfl) ⟨k, by omega, rfl, rfl⟩ Nz ?_
  simp only [qz]
  refine rg_move ?_
  simp only [qz]
  refine rf_extract rfl rfl rfl rfl ?_
  simp only [qz]
  refine rf_extract rfl rfl rfl rfl ?_
  simp only [qz]
  refine Rgn fun g3 => ?_
  simp only [qz]
  refine Rgn fun g4 => ?_
  simp only [qz]
  refine rf_storeR (n := 5) rfl rfl Kx rfl rfl (UpdR.there _ (UpdR.here _ _ _ Nl)) Nz ?_
  simp only [qz, Nat.reduceAdd]
  refine rf_storeR (n := 5) rfl rfl Kx rfl rfl (UpdR.here _ _ _ Nl) Nz ?_
  simp only [qz, Nat.reduceAdd]
  refine rg_nil (ek_next (wk_seq ?_))
  refine wk_region [0, 0, 1, 0, 0, 0, 1, 1, 0] rfl Kx ?_
  simp only [qy]
  refine rf_loadR (n := 5) rfl rfl rfl Try.underlying29 rfl Kx (fun w hw => Kn.hd0 (Kn.tl hw)) rfl rfl ?_
  simp only [qz]
  refine rf_loadR (n := 5) rfl rfl rfl Try.underlying29 rfl Kx (fun w hw => Kn.hd0 hw) rfl rfl ?_
  simp only [qz]
  apply rg_num Rx Kx
  case hargs => exact Ax
  case h => exact fun w hw => amMul_ok (x k) (y k) hxk hyk w
  case hz => exact Nz
  case hc => exact (fun c h => mk_err h)
  · intro hr2
    simp only [qz]
    refine rg_move ?_
    simp only [qz]
    refine rf_extract rfl rfl rfl rfl ?_
    simp only [qz]
    refine rf_extract rfl rfl rfl rfl ?_
    simp only [qz]
    refine Rgn fun g5 => ?_
    simp only [qz]
    refine rf_storeR (n := 5) rfl rfl Kx rfl rfl (UpdR.here _ _ _ Nl) Nz ?_
    simp only [qz, Nat.reduceAdd]
    refine rg_assign ?_
    simp only [qz]
    refine rg_nil (ek_next (wk_seq (wk_seq ?_)))
    refine wk_region [0, 0] rfl Kx ?_
    simp only [qy]
    refine rg_move ?_
    simp only [qz]
    refine rf_neq (b := true) rfl rfl rfl rfl (by decide) ?_
    simp only [qz]
    refine rg_nil (ek_next (wk_cond_t rfl (wk_seq ?_)))
    refine wk_region [0, 0, 1, 0] rfl Kx ?_
    simp only [qy]
    refine rf_build (cs := fun a => #[.int .i64 0, .int .i64 0, .int .i64 0, .int .i64 0, .int .i64 0]) rfl rfl Kx ?_
    simp only [qz]
    refine rg_move ?_
    simp only [qz]
    refine rf_storeR (n := 5) rfl rfl Kx rfl rfl (UpdR.there _ (UpdR.there _ (UpdR.there _ (UpdR.there _ (UpdR.here _ _ _ Nl))))) Nz ?_
    simp only [qz, Nat.reduceAdd]
    refine rg_assign ?_
    simp only [qz]
    refine rg_nil (ek_next (wk_ret (ek_then_ret (ek_block_ret (ek_then_ret (ek_then_ret (ek_block_ret (ek_then_ret ?_))))))))
    refine ek_ret (fun w hw => ⟨rfl, _, run_results2 rfl rfl (Kn.hd0 (Kn.tl (Kn.tl (Kn.tl (Kn.tl hw))))) Try.underlying29 rfl Kx, ?_⟩)
    (try simp only [qz])
    exact ⟨by rw [prodsR_err (k := k + 1) (c := 4) (by simp only [prodsR, hd2.out, hr2]) n Ox]; rfl, hw.below⟩
  intro z2 hr2
  simp only [qz]
  refine rg_move ?_
  simp only [qz]
  refine rf_extract rfl rfl rfl rfl ?_
  simp only [qz]
  refine rf_extract rfl rfl rfl rfl ?_
  simp only [qz]
  refine Rgn fun g6 => ?_
  simp only [qz]
  refine rf_storeR (n := 5) rfl rfl Kx rfl rfl (UpdR.here _ _ _ Nl) Nz ?_
  simp only [qz, Nat.reduceAdd]
  refine rg_assign ?_
  simp only [qz]
  refine rg_nil (ek_next (wk_seq (wk_seq ?_)))
  refine wk_region [0, 0] rfl Kx ?_
  simp only [qy]
  refine rg_move ?_
  simp only [qz]
  refine rf_neq (b := false) rfl rfl rfl rfl (by decide) ?_
  simp only [qz]
  refine rg_nil (ek_next (wk_cond_f rfl (wk_skip (ek_next (wk_seq ?_)))))
  refine wk_region [0, 0, 1, 0, 0, 0, 1, 0] rfl Kx ?_
  simp only [qy]
  refine rf_loadR (n := 5) rfl rfl rfl Try.underlying29 rfl Kx (fun w hw => Kn.hd0 (Kn.tl (Kn.tl (Kn.tl hw)))) rfl rfl ?_
  simp only [qz]
  refine rf_loadR (n := 5) rfl rfl rfl Try.underlying29 rfl Kx (fun w hw => Kn.hd0 hw) rfl rfl ?_
  simp only [qz]
  have hpk := (mk_ok (mulR_k hxk.k0 hyk.k0) hr2).1
  apply rg_num Rx Kx
  case hargs => exact Ax
  case h => exact fun w hw => amAdd_ok ac z2 hd3 hpk w
  case hz => exact Nz
  case hc => exact (fun c h => mk_err h)
  · intro hr3
    simp only [qz]
    refine rg_move ?_
    simp only [qz]
    refine rf_extract rfl rfl rfl rfl ?_
    simp only [qz]
    refine rf_extract rfl rfl rfl rfl ?_
    simp only [qz]
    refine rf_storeR (n := 5) rfl rfl Kx rfl rfl (UpdR.there _ (UpdR.there _ (UpdR.there _ (UpdR.here _ _ _ Nl)))) Nz ?_
    simp only [qz, Nat.reduceAdd]
    refine rg_assign ?_
    simp only [qz]
    refine rg_nil (ek_next (wk_seq ?_))
    refine wk_region [0, 0] rfl Kx ?_
    simp only [qy]
    refine rg_move ?_
    simp only [qz]
    refine rf_neq (b := true) rfl rfl rfl rfl (by decide) ?_
    simp only [qz]
    refine rg_nil (ek_next (wk_cond_t rfl (wk_seq ?_)))
    refine wk_region [0, 0, 1, 0] rfl Kx ?_
    simp only [qy]
    refine rf_build (cs := fun a => #[.int .i64 0, .int .i64 0, .int .i64 0, .int .i64 0, .int .i64 0]) rfl rfl Kx ?_
    simp only [qz]
    refine rg_move ?_
    simp only [qz]
    refine rf_storeR (n := 5) rfl rfl Kx rfl rfl (UpdR.there _ (UpdR.there _ (UpdR.there _ (UpdR.there _ (UpdR.here _ _ _ Nl))))) Nz ?_
    simp only [qz, Nat.reduceAdd]
    refine rg_assign ?_
    simp only [qz]
    refine rg_nil (ek_next (wk_ret (ek_block_ret (ek_then_ret (ek_then_ret (ek_block_ret (ek_then_ret ?_)))))))
    refine ek_ret (fun w hw => ⟨rfl, _, run_results2 rfl rfl (Kn.hd0 (Kn.tl (Kn.tl (Kn.tl (Kn.tl hw))))) Try.underlying29 rfl Kx, ?_⟩)
    (try simp only [qz])
    exact ⟨by rw [prodsR_err (k := k + 1) (c := 4) (by simp only [prodsR, hd2.out, hr2, hr3]) n Ox]; rfl, hw.below⟩
  intro z3 hr3
  simp only [qz]
  refine rg_move ?_
  simp only [qz]
  refine rf_extract rfl rfl rfl rfl ?_
  simp only [qz]
  refine rf_extract rfl rfl rfl rfl ?_
  simp only [qz]
  refine rf_storeR (n := 5) rfl rfl Kx rfl rfl (UpdR.there _ (UpdR.there _ (UpdR.there _ (UpdR.here _ _ _ Nl)))) Nz ?_
  simp only [qz, Nat.reduceAdd]
  refine rg_assign ?_
  simp only [qz]
  refine rg_nil (ek_next (wk_seq ?_))
  refine wk_region [0, 0] rfl Kx ?_
  simp only [qy]
  refine rg_move ?_
  simp only [qz]
  refine rf_neq (b := false) rfl rfl rfl rfl (by decide) ?_
  simp only [qz]
  refine rg_nil (ek_next (wk_cond_f rfl (wk_skip (ek_block (ek_next ?_)))))
  refine wk_region [0, 0] rfl Kx ?_
  simp only [qy]
  refine rf_add rfl rfl rfl rfl (wrap_ok Ox Ox) ?_
  simp only [qz]
  refine rg_move ?_
  simp only [qz]
  refine rg_nil ?_
  refine ek_sub (sk _ (sk _ (sk _ (sc _ (sc _ sn))))) ?_
  refine ek_roundF (n - (k + 1)) Ox Kx ?_
  exact ⟨k + 1, z3, rfl, by rfl, by rfl, Ox, (Lib.hid (by simp only [prodsR, hd2.out, hr2, hr3])), (mk_ok (addR_k hd3.k0) hr3).1⟩

set_option maxRecDepth 100000 in
set_option maxHeartbeats 1000000 in
theorem mul11_any (xs ys : List Nm) (a a' : Option Addr) (c c' : Nat) (N : Nat) (hN : N ≤ 6) (hlx : Hid (xs.length = N * N)) (hly : Hid (ys.length = N * N)) (i j k gx gi gy gk : Nat) (hi : i < N) (hj : j < N) (hk : k < N) (w : World) (hA : AS w a (nms xs)) (hB : AS w a' (nms ys)) (hX : Hd w gx 83 #[.int .i64 N, .slice a xs.length c]) (hY : Hd w gy 83 #[.int .i64 N, .slice a' ys.length c']) (hI : Hd w gi 3 #[.int .i64 i]) (hK : Hd w gk 3 #[.int .i64 k]) : Calls Try.prog 99 #[.int .i64 (j : Int), .pointer (some ⟨gx, 0, none⟩), .pointer (some ⟨gi, 0, none⟩), .pointer (some ⟨gy, 0, none⟩), .pointer (some ⟨gk, 0, none⟩)] w fun e w' => e = .returned (.tuple #[nmV (nm xs (i * N + j)), nmV (nm ys (j * N + k))]) ∧ Below w.heap.size w w' := by
  go_enter Try.func99, Try.ntmps99
  refine wk_start ?_
  refine wk_seq ?_
  refine wk_region [1, 1] rfl Kx ?_
  simp only [qy]
  refine Rgn fun g1 => ?_
  simp only [qz]
  refine Rgn fun g2 => ?_
  simp only [qz]
  refine rg_nil (ek_next (wk_seq ?_))
  refine wk_draws_m (hz1 := (sk _ (sk _ sn))) [(0, 0), (1, 0), (2, 0), (4, 3), (5, 3), (6, 3), (3, 1), (7, 1), (8, 2), (9, 1)] 8 Kx Kx (fun c d v a w h => by cases d <;> exact h) ?_
  simp only [List.map_cons, List.map_nil, List.getD_cons_zero, List.getD_cons_succ]
  refine rf_loadC (n := 2) (vs := [.int .i64 N, .slice a xs.length c]) rfl rfl rfl Try.underlying83 rfl Kx rfl (fun w hw => cells_range (Kn.hdB hw hX (by simp)) 0 2) ?_
  simp only [qz]
  refine rf_load (v := .int .i64 i) rfl rfl rfl Try.underlying3 rfl (fun w hw => (Kn.hdB hw hI (by simp)).at (i := 0) rfl) ?_
  simp only [qz]
  refine rg_move ?_
  simp only [qz]
  refine rf_loadC (n := 2) (vs := [.int .i64 N, .slice a' ys.length c']) rfl rfl rfl Try.underlying83 rfl Kx rfl (fun w hw => cells_range (Kn.hdB hw hY (by simp)) 0 2) ?_
  simp only [qz]
  refine rg_moveP ?_
  simp only [qz]
  refine rf_load (v := .int .i64 k) rfl rfl rfl Try.underlying3 rfl (fun w hw => (Kn.hdB hw hK (by simp)).at (i := 0) rfl) ?_
  simp only [qz]
  apply rg_pure Rx Kx
  case hargs => exact Ax
  case h => exact fun w hw => at_any N i j xs a c hlx.out hN hi hj w (hA.kn0 hw)
  case hz => exact (fun _ h => by cases h; exact (sc _ (sc _ sn)))
  simp only [qz]
  apply rg_pure Rx Kx
  case hargs => exact Ax
  case h => exact fun w hw => at_any N j k ys a' c' hly.out hN hj hk w (hB.kn0 hw)
  case hz => exact (fun _ h => by cases h; exact (sc _ (sc _ sn)))
  simp only [qz]
  refine rf_storeRM (n := 5) rfl rfl Kx rfl rfl (UpdR.there _ (UpdR.here _ _ _ Nl)) (sk _ (sk _ sn)) ?_
  simp only [qz, Nat.reduceAdd]
  refine rf_storeR (n := 5) rfl rfl Kx rfl rfl (UpdR.here _ _ _ Nl) (fun _ h => by cases h; exact (sk _ (sk _ sn))) ?_
  simp only [qz, Nat.reduceAdd]
  refine rg_nil (ek_next (wk_ret ?_))
  refine ek_ret (fun w hw => ⟨rfl, _, run_results_c2 rfl rfl (Kn.hd0 (Kn.tl hw)) Try.underlying29 rfl Kx rfl (Kn.hd0 hw) Try.underlying29 rfl Kx, ?_⟩)
  exact ⟨rfl, hw.below⟩

def mulF (N : Nat) (xs ys : List Nm) (i k : Nat) : NR := prodsR (fun j => nm xs (i * N + j)) (fun j => nm ys (j * N + k)) N
theorem ek_rfl_num {r : NR} {v : Nm} {c : Int} (h : numV r = .tuple #[nmV v, .int .i64 c]) : Ending.returned (.tuple #[nmV v, .int .i64 c]) = .returned (numV r) := by rw [h]
set_option maxRecDepth 100000 in
set_option maxHeartbeats 1000000 in
theorem mul1_any (xs ys : List Nm) (a a' : Option Addr) (c c' : Nat) (N : Nat) (hN : N ≤ 6) (hlx : Hid (xs.length = N * N)) (hly : Hid (ys.length = N * N)) (hox : allOk xs = true) (hoy : allOk ys = true) (i k gm gx gy : Nat) (hi : i < N) (hk : k < N) (w : World) (hA : AS w a (nms xs)) (hB : AS w a' (nms ys)) (hM : Hd w gm 24 #[.int .i64 N, .slice a xs.length c]) (hX : Hd w gx 83 #[.int .i64 N, .slice a xs.length c]) (hY : Hd w gy 83 #[.int .i64 N, .slice a' ys.length c']) : Calls Try.prog 97 #[.int .i64 (i : Int), .int .i64 (k : Int), .pointer (some ⟨gm, 0, none⟩), .pointer (some ⟨gx, 0, none⟩), .pointer (some ⟨gy, 0, none⟩)] w fun e w' => e = .returned (numV (mulF N xs ys i k)) ∧ Below w.heap.size w w' := by
  go_enter Try.func97, Try.ntmps97
  refine wk_start ?_
  refine wk_seq ?_
  refine wk_region [1, 1, 1, 0] rfl Kx ?_
  simp only [qy]
  refine Rgn fun g1 => ?_
  simp only [qz]
  refine Rgn fun g2 => ?_
  simp only [qz]
  refine Rgn fun g3 => ?_
  simp only [qz]
  refine rg_assign ?_
  simp only [qz]
  refine rg_nil (ek_next (wk_seq ?_))
  refine wk_region [0, 0, 0, 1, 0, 0, 1, 0] rfl Kx ?_
  simp only [qy]
  apply rg_soft
  case hy => (intro w hw; go_simp; (try go_bits); exact Yld.mk _ _)
  simp only [qz]
  refine rf_load (v := .int .i64 N) rfl rfl rfl Try.underlying3 rfl (fun w hw => (Kn.hdB hw hM (by simp)).at (i := 0) rfl) ?_
  simp only [qz]
  apply rg_soft
  case hy => (intro w hw; go_simp; (try go_bits); exact Yld.mk _ _)
  simp only [qz]
  apply rg_pure Rx Kx
  case hargs => exact Ax
  case h => exact fun w hw => products_any N hN (fun j => nm xs (i * N + j)) (fun j => nm ys (j * N + k)) _ (fun j hj => elemOk hox hlx.out hi hj) (fun j hj => elemOk hoy hly.out hj hk) w ⟨_, _, _, rfl, by kernel_rfl, fun w' hb vs r ⟨j, hj, hv, hr⟩ => by
      subst hv hr
      have h := mul11_any xs ys a a' c c' N hN hlx hly i j k gx g1 gy g2 hi hj hk w' ((hA.kn0 hw).below hb) ((hB.kn0 hw).below hb) ((Kn.hdB hw hX (by simp)).belowS hb) ((Kn.hdB hw hY (by simp)).belowS hb) ((Kn.hd0 (Kn.tl (Kn.tl hw))).belowS hb) ((Kn.hd0 (Kn.tl hw)).belowS hb)
      simpa using h⟩
  case hz => exact Nz
  simp only [qz]
  obtain ⟨v, e, hve⟩ := numV_ve2 (prodsR (fun j => nm xs (i * N + j)) (fun j => nm ys (j * N + k)) N)
  rw [hve]
  replace hve := Lib.hid hve
  refine rf_extract rfl rfl rfl rfl ?_
  simp only [qz]
  refine rf_extract rfl rfl rfl rfl ?_
  simp only [qz]
  refine rf_storeR (n := 5) rfl rfl Kx rfl rfl (UpdR.here _ _ _ Nl) Nz ?_
  simp only [qz, Nat.reduceAdd]
  refine rg_assign ?_
  simp only [qz]
  refine rg_nil (ek_next (wk_ret ?_))
  refine ek_ret (fun w hw => ⟨rfl, _, run_results2 rfl rfl (Kn.hd0 hw) Try.underlying29 rfl Kx, ?_⟩)
  (try simp only [qz])
  exact ⟨(congrArg Ending.returned hve.out).symm, hw.below⟩

end Go.Proofs.Ytjeijnjaleldkaa
namespace Go.Proofs.Ytjeijnjaleldkaa
set_option linter.all false
open Go.RowKit

/-- A vector. -/
def vecB (vs : List Nm) : Bool := decide (1 ≤ vs.length) && (decide (vs.length ≤ 6) && allOk vs)
theorem vecB_y {vs : List Nm} (h : vecB vs = true) : 1 ≤ vs.length ∧ vs.length ≤ 6 ∧ allOk vs = true := by
  simpa [vecB] using h
/-- A call that hands back a list of numbers and an error. -/
def RetV (w : World) (zs : List Nm) (cc : Int) (e : Ending) (w' : World) : Prop := ∃ v u, e = .returned (.tuple #[v, .int .i64 cc]) ∧ OwnN u v zs ∧ Made w u w'
section
variable {R : Option Nat} {ops : Array Oper} {Q : Exit → Act → World → Prop} {B : World} {F : List Nat} {s0 : Option (List Blk × List Blk)}
variable {l : List (Oper × Nat)} {a : Act} {s S : List Blk} {d : Option Tmp} {op : Op} {t : TypeId} {p : String} {af : Array Edge} {v : Value}
theorem rg_retV {f : Nat} {cargs : Array Operand} {at_ : Array TypeId} {args : Array Value} {zs : List Nm} {cc : Int} {P : Program} {gd : Option (Nat × Bool)} (hg : Region.wanted ⟨d, .call ⟨.value (.func f), cargs, at_⟩, t, p, af, gd⟩ (yielded ops a.tmps) = true) (hgo : isGo P f = true)
    (h : ∀ w, Kn B F s w → Calls P f args w (RetV w zs cc)) (hargs : cargs.map a.eval = args)
    (hz : ∀ z ∈ s0, z.1.Sublist s) (k : ∀ (va : Option Addr) (vc : Nat) (u : List Blk), OwnN u (.slice va zs.length vc) zs → Rg R P ops Q B F s0 l (a.put d (.tuple #[.slice va zs.length vc, .int .i64 cc])) (u ++ s)) :
    Rg R P ops Q B F s0 ((⟨d, .call ⟨.value (.func f), cargs, at_⟩, t, p, af, gd⟩, 1) :: l) a s :=
  rg_call hg hgo hargs fun w K => (h w K).mono fun e w' ⟨v, u, he, hO, hm⟩ => by
    obtain ⟨a', c', rfl, -⟩ := Own.val hO
    exact ⟨_, u ++ s, he, K.add hm, fun z hz' => (hz z hz').trans (List.sublist_append_right _ _), k a' c' u hO⟩
end
theorem retV_err {w w' : World} {c : Int} {r : LR} (h : r = .error c) (hb : Below w.heap.size w w') : RetV w (rL r) (rC r) (.returned (.tuple #[.slice none 0 0, .int .i64 c])) w' := by
  subst h
  exact ⟨.slice none 0 0, [], rfl, OwnG.nil, .nil hb⟩
/-- A matrix and a vector. -/
def appR (N : Nat) (xs vs : List Nm) (i : Nat) : NR := prodsR (fun j => nm xs (i * N + j)) (nm vs) N
def appM (n : Int) (xs vs : List Nm) : LR := if validB n xs && vecB vs then (if n = vs.length then gather (appR n.toNat xs vs) n.toNat else .error 21) else .error 20
/-- The length of a vector. -/
def lenM (vs : List Nm) : NR := if vecB vs then lenR (nm vs) vs.length else .error 20
theorem lenR_code {x : Nat → Nm} : ∀ {n : Nat} {c : Int}, lenR x n = .error c → c = 4
  | 0, c, h => by cases h
  | n + 1, c, h => by
    simp only [lenR] at h
    split at h
    · next h' => injection h with h; subst h; exact lenR_code h'
    · split at h
      · next h' => injection h with h; subst h; exact mk_err h'
      · exact mk_err h
set_option maxRecDepth 100000 in
set_option maxHeartbeats 1000000 in
theorem mvector_any (vs : List Nm) (a' : Option Addr) (c' : Nat) (hl' : vs.length ≤ 1000000) (w : World) (hB : AS w a' (nms vs)) : Calls Try.prog 102 #[.slice a' vs.length c'] w fun e w' => e = .returned (.bool (vecB vs)) ∧ Below w.heap.size w w' := by
  go_enter Try.func102, Try.ntmps102
  refine wk_start ?_
  refine wk_seq ?_
  refine wk_region [0] rfl Kx ?_
  simp only [qy]
  refine rg_assign ?_
  simp only [qz]
  refine rg_nil (ek_next (wk_seq ?_))
  refine wk_region [0, 0, 0, 0, 0, 0, 0, 0, 0, 0, 1, 0, 0] rfl Kx ?_
  simp only [qy]
  refine rg_move ?_
  simp only [qz]
  refine rf_len rfl rfl rfl Try.underlying22 ?_
  simp only [qz]
  refine rfb_geq rfl rfl rfl rfl ?_
  intro x h1
  cases x
  · (try simp only [qd, ne_eq] at h1)
    simp only [qz]
    refine rg_move ?_
    simp only [qz]
    refine rg_skip Rx ?_
    simp only [qz]
    refine rg_skip Rx ?_
    simp only [qz]
    refine rg_skip Rx ?_
    simp only [qz]
    refine rf_pick rfl rfl rfl ?_
    simp only [qz]
    refine rg_move ?_
    simp only [qz]
    refine rg_skip Rx ?_
    simp only [qz]
    refine rg_skip_h Rx Nz ?_
    simp only [qz]
    refine rf_pick rfl rfl rfl ?_
    simp only [qz]
    refine rg_assign ?_
    simp only [qz]
    refine rg_nil (ek_next (wk_ret ?_))
    refine ek_ret (fun w hw => ⟨rfl, _, res_t _ rfl, ?_⟩)
    (try simp only [qz])
    exact ⟨by (unfold vecB; first | (rw [decide_eq_true (show 1 ≤ vs.length by omega), decide_eq_true (show vs.length ≤ 6 by omega)]; rfl) | (rw [decide_eq_false (show ¬ 1 ≤ vs.length by omega)]; rfl) | (rw [decide_eq_false (show ¬ vs.length ≤ 6 by omega), Bool.false_and, Bool.and_false])), hw.below⟩
  (try simp only [qd, ne_eq] at h1)
  simp only [qz]
  refine rg_move ?_
  simp only [qz]
  apply rg_soft_g
  case hg => rfl
  case hy => (intro w hw; go_simp; (try go_bits); exact Yld.mk _ _)
  simp only [qz]
  refine rf_len rfl rfl rfl Try.underlying22 ?_
  simp only [qz]
  refine rfb_leq rfl rfl rfl rfl ?_
  intro x h2
  cases x
  · (try simp only [qd, ne_eq] at h2)
    simp only [qz]
    refine rf_pick rfl rfl rfl ?_
    simp only [qz]
    refine rg_move ?_
    simp only [qz]
    refine rg_skip Rx ?_
    simp only [qz]
    refine rg_skip_h Rx Nz ?_
    simp only [qz]
    refine rf_pick rfl rfl rfl ?_
    simp only [qz]
    refine rg_assign ?_
    simp only [qz]
    refine rg_nil (ek_next (wk_ret ?_))
    refine ek_ret (fun w hw => ⟨rfl, _, res_t _ rfl, ?_⟩)
    (try simp only [qz])
    exact ⟨by (unfold vecB; first | (rw [decide_eq_true (show 1 ≤ vs.length by omega), decide_eq_true (show vs.length ≤ 6 by omega)]; rfl) | (rw [decide_eq_false (show ¬ 1 ≤ vs.length by omega)]; rfl) | (rw [decide_eq_false (show ¬ vs.length ≤ 6 by omega), Bool.false_and, Bool.and_false])), hw.below⟩
  (try simp only [qd, ne_eq] at h2)
  simp only [qz]
  refine rf_pick rfl rfl rfl ?_
  simp only [qz]
  refine rg_move ?_
  simp only [qz]
  apply rg_soft_g
  case hg => rfl
  case hy => (intro w hw; go_simp; (try go_bits); exact Yld.mk _ _)
  simp only [qz]
  apply rg_pure Rx Kx
  case hargs => exact Ax
  case h => exact fun w hw => numbers_any vs a' c' hl' w (hB.kn0 hw)
  case hz => exact Nz
  simp only [qz]
  refine rf_pick rfl rfl rfl ?_
  simp only [qz]
  refine rg_assign ?_
  simp only [qz]
  refine rg_nil (ek_next (wk_ret ?_))
  refine ek_ret (fun w hw => ⟨rfl, _, res_t _ rfl, ?_⟩)
  (try simp only [qz])
  exact ⟨by (unfold vecB; first | (rw [decide_eq_true (show 1 ≤ vs.length by omega), decide_eq_true (show vs.length ≤ 6 by omega)]; rfl) | (rw [decide_eq_false (show ¬ 1 ≤ vs.length by omega)]; rfl) | (rw [decide_eq_false (show ¬ vs.length ≤ 6 by omega), Bool.false_and, Bool.and_false])), hw.below⟩

theorem power_ok {z p : Nm} (hz : z.Ok) (h : z.power = .ok p) : p.Ok := (mk_ok (mulR_k hz.k0 (conj_ok hz).k0) h).1
set_option maxRecDepth 100000 in
set_option maxHeartbeats 1000000 in
theorem mlength_any (vs : List Nm) (a' : Option Addr) (c' : Nat) (hl' : vs.length ≤ 1000000) (w : World) (hB : AS w a' (nms vs)) : Calls Try.prog 54 #[.slice a' vs.length c'] w fun e w' => e = .returned (numV (lenM vs)) ∧ Below w.heap.size w w' := by
  go_enter Try.func54, Try.ntmps54
  refine wk_start ?_
  refine wk_seq ?_
  refine wk_region [1, 0] rfl Kx ?_
  simp only [qy]
  refine Rgn fun g1 => ?_
  simp only [qz]
  refine rg_assign ?_
  simp only [qz]
  refine rg_nil (ek_next (wk_seq (wk_seq ?_)))
  refine wk_region [0, 1, 0] rfl Kx ?_
  simp only [qy]
  refine rg_move ?_
  simp only [qz]
  apply rg_pureb Rx Kx
  case hargs => exact Ax
  case h => exact fun w hw => mvector_any vs a' c' hl' w (hB.kn0 hw)
  case hz => exact Nz
  intro x h1
  cases x
  · (try simp only [qd, ne_eq] at h1)
    simp only [qz]
    refine rf_not rfl rfl rfl ?_
    simp only [qz]
    refine rg_nil (ek_next (wk_cond_t rfl (wk_seq ?_)))
    refine wk_region [0, 1, 0] rfl Kx ?_
    simp only [qy]
    refine rf_build (cs := fun a => #[.int .i64 0, .int .i64 0, .int .i64 0, .int .i64 0, .int .i64 0]) rfl rfl Kx ?_
    simp only [qz]
    refine rf_storeR (n := 5) rfl rfl Kx rfl rfl (UpdR.here _ _ _ Nl) Nz ?_
    simp only [qz, Nat.reduceAdd]
    refine rg_assign ?_
    simp only [qz]
    refine rg_nil (ek_next (wk_ret (ek_then_ret ?_)))
    refine ek_ret (fun w hw => ⟨rfl, _, run_results2 rfl rfl (Kn.hd0 hw) Try.underlying29 rfl Kx, ?_⟩)
    (try simp only [qz])
    exact ⟨by unfold lenM; rw [h1]; rfl, hw.below⟩
  (try simp only [qd, ne_eq] at h1)
  simp only [qz]
  have hv := h1
  obtain ⟨hv1, hv6, hvo⟩ := vecB_y hv
  have hcp : lenM vs = lenR (nm vs) vs.length := by (unfold lenM; rw [hv, if_pos rfl])
  replace hcp := Lib.hid hcp
  refine rf_not rfl rfl rfl ?_
  simp only [qz]
  refine rg_nil (ek_next (wk_cond_f rfl (wk_skip (ek_next (wk_seq ?_)))))
  refine wk_region [1] rfl Kx ?_
  simp only [qy]
  refine Rgn fun g2 => ?_
  simp only [qz]
  refine rg_nil (ek_next (wk_seq (wk_seq ?_)))
  refine wk_region [0, 0, 0] rfl Kx ?_
  simp only [qy]
  refine rg_move ?_
  simp only [qz]
  refine rf_len rfl rfl rfl Try.underlying22 ?_
  simp only [qz]
  refine rg_move ?_
  simp only [qz]
  refine rg_nil (ek_next (wk_block ?_))
  refine wk_loopF [3, 6, 7, 8, 15, 16, 17, 18, 19, 20, 21, 22, 23, 24, 25, 26, 27, 28, 29, 30, 31, 32, 33, 34, 35, 36, 37, 38] (fun mz f s => ∃ (k : Nat) (ac : Nm), f 15 = .int .i64 k ∧ s = ((g2, .cells #[.int .i64 ac.a, .int .i64 ac.b, .int .i64 ac.c, .int .i64 ac.d, .int .i64 ac.k] 29) :: ((g1, .cells #[.int .i64 0, .int .i64 0, .int .i64 0, .int .i64 0, .int .i64 0] 29) :: [])) ∧ mz = vs.length - k ∧ k ≤ vs.length ∧ Hid (lenR (nm vs) k = .ok ac) ∧ ac.Ok) ((fun (k : Nat) (ac : Nm) => vs.length - k) (0) (Nm.zero)) ?_ Kx ?_
  · exact ⟨0, Nm.zero, rfl, rfl, rfl, by omega, (Lib.hid rfl), zero_ok⟩
  rintro mz f1 s ⟨k, ac, hs1_15, rfl, hn, hd1, hd2, hd3⟩
  simp only [Act.putF, List.foldl_cons, List.foldl_nil, hs1_15, Act.put, Act.eval, q1, q2, q3, q4, q5, q6, q7, q8, q9, q10, q11, q12, q13, q14, q15, q16, q17, q18, Nat.reduceAdd, Bool.not_true, Bool.not_false]
  clear hs1_15
  refine wk_seq ?_
  refine wk_region [0] rfl Kx ?_
  simp only [qy]
  refine rfb_lss rfl rfl rfl rfl ?_
  intro x h2
  cases x
  · (try simp only [qd, ne_eq] at h2)
    simp only [qz]
    refine rg_nil (ek_next (wk_seq (wk_cond_f rfl (wk_exit (ek_then_exit (ek_then_exit (ek_block_exit (ek_next (wk_seq ?_)))))))))
    refine wk_region [0, 1, 0] rfl Kx ?_
    simp only [qy]
    refine rf_loadR (n := 5) rfl rfl rfl Try.underlying29 rfl Kx (fun w hw => Kn.hd0 hw) rfl rfl ?_
    simp only [qz]
    refine rf_storeR (n := 5) rfl rfl Kx rfl rfl (UpdR.there _ (UpdR.here _ _ _ Nl)) Nz ?_
    simp only [qz, Nat.reduceAdd]
    refine rg_assign ?_
    simp only [qz]
    refine rg_nil (ek_next (wk_ret ?_))
    refine ek_ret (fun w hw => ⟨rfl, _, run_results2 rfl rfl (Kn.hd0 (Kn.tl hw)) Try.underlying29 rfl Kx, ?_⟩)
    (try simp only [qz])
    obtain rfl : k = vs.length := by omega
    exact ⟨by rw [hcp.out, hd2.out]; rfl, hw.below⟩
  (try simp only [qd, ne_eq] at h2)
  simp only [qz]
  refine rg_nil (ek_next (wk_seq (wk_cond_t rfl (wk_skip (ek_next (wk_seq (wk_block (wk_seq ?_))))))))
  obtain ⟨b', off', ha', hlt', hcell'⟩ := AS.openN hB Ox
  subst ha'
  have hvk := ok_at hvo (show k < vs.length by omega)
  refine wk_region [0, 0, 1, 1] rfl Kx ?_
  simp only [qy]
  refine rf_indexS (n := k) (sz := 5) (j := off' + k * 5) rfl rfl rfl rfl Try.underlying22 Kx Ox Ox rfl ?_
  simp only [qz]
  refine rf_loadC (n := 5) (vs := [.int .i64 (nm vs k).a, .int .i64 (nm vs k).b, .int .i64 (nm vs k).c, .int .i64 (nm vs k).d, .int .i64 (nm vs k).k]) rfl rfl rfl Try.underlying29 rfl Kx rfl (fun w hw => atN_range ((hcell' k Ox).kn hw hlt' (by simp))) ?_
  simp only [qz]
  refine Rgn fun g3 => ?_
  simp only [qz]
  refine rf_storeR (n := 5) rfl rfl Kx rfl rfl (UpdR.here _ _ _ Nl) Nz ?_
  simp only [qz, Nat.reduceAdd]
  refine rg_nil (ek_next (wk_seq ?_))
  refine wk_region [0, 1, 0, 0, 0, 1, 1, 0] rfl Kx ?_
  simp only [qy]
  refine rf_loadR (n := 5) rfl rfl rfl Try.underlying29 rfl Kx (fun w hw => Kn.hd0 hw) rfl rfl ?_
  simp only [qz]
  apply rg_num Rx Kx
  case hargs => exact Ax
  case h => exact fun w hw => amPower_ok (nm vs k) hvk w
  case hz => exact Nz
  case hc => exact (fun c h => mk_err h)
  · intro hr3
    simp only [qz]
    refine rg_move ?_
    simp only [qz]
    refine rf_extract rfl rfl rfl rfl ?_
    simp only [qz]
    refine rf_extract rfl rfl rfl rfl ?_
    simp only [qz]
    refine Rgn fun g4 => ?_
    simp only [qz]
    refine rf_storeR (n := 5) rfl rfl Kx rfl rfl (UpdR.here _ _ _ Nl) Nz ?_
    simp only [qz, Nat.reduceAdd]
    refine rg_assign ?_
    simp only [qz]
    refine rg_nil (ek_next (wk_seq (wk_seq ?_)))
    refine wk_region [0, 0] rfl Kx ?_
    simp only [qy]
    refine rg_move ?_
    simp only [qz]
    refine rf_neq (b := true) rfl rfl rfl rfl (by decide) ?_
    simp only [qz]
    refine rg_nil (ek_next (wk_cond_t rfl (wk_seq ?_)))
    refine wk_region [0, 0, 1, 0] rfl Kx ?_
    simp only [qy]
    refine rf_build (cs := fun a => #[.int .i64 0, .int .i64 0, .int .i64 0, .int .i64 0, .int .i64 0]) rfl rfl Kx ?_
    simp only [qz]
    refine rg_move ?_
    simp only [qz]
    refine rf_storeR (n := 5) rfl rfl Kx rfl rfl (UpdR.there _ (UpdR.there _ (UpdR.there _ (UpdR.here _ _ _ Nl)))) Nz ?_
    simp only [qz, Nat.reduceAdd]
    refine rg_assign ?_
    simp only [qz]
    refine rg_nil (ek_next (wk_ret (ek_then_ret (ek_block_ret (ek_then_ret (ek_then_ret (ek_block_ret (ek_then_ret ?_))))))))
    refine ek_ret (fun w hw => ⟨rfl, _, run_results2 rfl rfl (Kn.hd0 (Kn.tl (Kn.tl (Kn.tl hw)))) Try.underlying29 rfl Kx, ?_⟩)
    (try simp only [qz])
    exact ⟨by rw [hcp.out, lenR_err (k := k + 1) (c := 4) (by simp only [lenR, hd2.out, hr3]) vs.length Ox]; rfl, hw.below⟩
  intro z3 hr3
  simp only [qz]
  refine rg_move ?_
  simp only [qz]
  refine rf_extract rfl rfl rfl rfl ?_
  simp only [qz]
  refine rf_extract rfl rfl rfl rfl ?_
  simp only [qz]
  refine Rgn fun g5 => ?_
  simp only [qz]
  refine rf_storeR (n := 5) rfl rfl Kx rfl rfl (UpdR.here _ _ _ Nl) Nz ?_
  simp only [qz, Nat.reduceAdd]
  refine rg_assign ?_
  simp only [qz]
  refine rg_nil (ek_next (wk_seq (wk_seq ?_)))
  refine wk_region [0, 0] rfl Kx ?_
  simp only [qy]
  refine rg_move ?_
  simp only [qz]
  refine rf_neq (b := false) rfl rfl rfl rfl (by decide) ?_
  simp only [qz]
  refine rg_nil (ek_next (wk_cond_f rfl (wk_skip (ek_next (wk_seq ?_)))))
  refine wk_region [0, 0, 1, 0, 0, 0, 1, 0] rfl Kx ?_
  simp only [qy]
  refine rf_loadR (n := 5) rfl rfl rfl Try.underlying29 rfl Kx (fun w hw => Kn.hd0 (Kn.tl (Kn.tl hw))) rfl rfl ?_
  simp only [qz]
  refine rf_loadR (n := 5) rfl rfl rfl Try.underlying29 rfl Kx (fun w hw => Kn.hd0 hw) rfl rfl ?_
  simp only [qz]
  have hpk := power_ok hvk hr3
  apply rg_num Rx Kx
  case hargs => exact Ax
  case h => exact fun w hw => amAdd_ok ac z3 hd3 hpk w
  case hz => exact Nz
  case hc => exact (fun c h => mk_err h)
  · intro hr4
    simp only [qz]
    refine rg_move ?_
    simp only [qz]
    refine rf_extract rfl rfl rfl rfl ?_
    simp only [qz]
    refine rf_extract rfl rfl rfl rfl ?_
    simp only [qz]
    refine rf_storeR (n := 5) rfl rfl Kx rfl rfl (UpdR.there _ (UpdR.there _ (UpdR.here _ _ _ Nl))) Nz ?_
    simp only [qz, Nat.reduceAdd]
    refine rg_assign ?_
    simp only [qz]
    refine rg_nil (ek_next (wk_seq ?_))
    refine wk_region [0, 0] rfl Kx ?_
    simp only [qy]
    refine rg_move ?_
    simp only [qz]
    refine rf_neq (b := true) rfl rfl rfl rfl (by decide) ?_
    simp only [qz]
    refine rg_nil (ek_next (wk_cond_t rfl (wk_seq ?_)))
    refine wk_region [0, 0, 1, 0] rfl Kx ?_
    simp only [qy]
    refine rf_build (cs := fun a => #[.int .i64 0, .int .i64 0, .int .i64 0, .int .i64 0, .int .i64 0]) rfl rfl Kx ?_
    simp only [qz]
    refine rg_move ?_
    simp only [qz]
    refine rf_storeR (n := 5) rfl rfl Kx rfl rfl (UpdR.there _ (UpdR.there _ (UpdR.there _ (UpdR.here _ _ _ Nl)))) Nz ?_
    simp only [qz, Nat.reduceAdd]
    refine rg_assign ?_
    simp only [qz]
    refine rg_nil (ek_next (wk_ret (ek_block_ret (ek_then_ret (ek_then_ret (ek_block_ret (ek_then_ret ?_)))))))
    refine ek_ret (fun w hw => ⟨rfl, _, run_results2 rfl rfl (Kn.hd0 (Kn.tl (Kn.tl (Kn.tl hw)))) Try.underlying29 rfl Kx, ?_⟩)
    (try simp only [qz])
    exact ⟨by rw [hcp.out, lenR_err (k := k + 1) (c := 4) (by simp only [lenR, hd2.out, hr3, hr4]) vs.length Ox]; rfl, hw.below⟩
  intro z4 hr4
  simp only [qz]
  refine rg_move ?_
  simp only [qz]
  refine rf_extract rfl rfl rfl rfl ?_
  simp only [qz]
  refine rf_extract rfl rfl rfl rfl ?_
  simp only [qz]
  refine rf_storeR (n := 5) rfl rfl Kx rfl rfl (UpdR.there _ (UpdR.there _ (UpdR.here _ _ _ Nl))) Nz ?_
  simp only [qz, Nat.reduceAdd]
  refine rg_assign ?_
  simp only [qz]
  refine rg_nil (ek_next (wk_seq ?_))
  refine wk_region [0, 0] rfl Kx ?_
  simp only [qy]
  refine rg_move ?_
  simp only [qz]
  refine rf_neq (b := false) rfl rfl rfl rfl (by decide) ?_
  simp only [qz]
  refine rg_nil (ek_next (wk_cond_f rfl (wk_skip (ek_block (ek_next ?_)))))
  refine wk_region [0, 0] rfl Kx ?_
  simp only [qy]
  refine rf_add rfl rfl rfl rfl (wrap_ok Ox Ox) ?_
  simp only [qz]
  refine rg_move ?_
  simp only [qz]
  refine rg_nil ?_
  refine ek_sub (sk _ (sk _ (sc _ (sc _ sn)))) ?_
  refine ek_roundF (vs.length - (k + 1)) Ox Kx ?_
  exact ⟨k + 1, z4, rfl, by rfl, by rfl, Ox, (Lib.hid (by simp only [lenR, hd2.out, hr3, hr4])), (mk_ok (addR_k hd3.k0) hr4).1⟩

set_option maxRecDepth 100000 in
set_option maxHeartbeats 1000000 in
theorem apply1_any (xs vs : List Nm) (a a' : Option Addr) (c c' : Nat) (N : Nat) (hN : N ≤ 6) (hlx : Hid (xs.length = N * N)) (i k gx gi gv : Nat) (hi : i < N) (hk : k < N) (hk2 : k < vs.length) (w : World) (hA : AS w a (nms xs)) (hB : AS w a' (nms vs)) (hX : Hd w gx 83 #[.int .i64 N, .slice a xs.length c]) (hI : Hd w gi 3 #[.int .i64 i]) (hV : Hd w gv 22 #[.slice a' vs.length c']) : Calls Try.prog 103 #[.int .i64 (k : Int), .pointer (some ⟨gx, 0, none⟩), .pointer (some ⟨gi, 0, none⟩), .pointer (some ⟨gv, 0, none⟩)] w fun e w' => e = .returned (.tuple #[nmV (nm xs (i * N + k)), nmV (nm vs k)]) ∧ Below w.heap.size w w' := by
  obtain ⟨b', off', ha', hlt', hcell'⟩ := AS.openN hB Ox
  subst ha'
  go_enter Try.func103, Try.ntmps103
  refine wk_start ?_
  refine wk_seq ?_
  refine wk_region [1, 1] rfl Kx ?_
  simp only [qy]
  refine Rgn fun g1 => ?_
  simp only [qz]
  refine Rgn fun g2 => ?_
  simp only [qz]
  refine rg_nil (ek_next (wk_seq ?_))
  refine wk_draws_m (hz1 := (sk _ (sk _ sn))) [(0, 0), (1, 0), (2, 0), (4, 3), (5, 3), (6, 3), (7, 3), (3, 1), (8, 2), (9, 1)] 8 Kx Kx (fun c d v a w h => by cases d <;> exact h) ?_
  simp only [List.map_cons, List.map_nil, List.getD_cons_zero, List.getD_cons_succ]
  refine rf_loadC (n := 2) (vs := [.int .i64 N, .slice a xs.length c]) rfl rfl rfl Try.underlying83 rfl Kx rfl (fun w hw => cells_range (Kn.hdB hw hX (by simp)) 0 2) ?_
  simp only [qz]
  refine rf_load (v := .int .i64 i) rfl rfl rfl Try.underlying3 rfl (fun w hw => (Kn.hdB hw hI (by simp)).at (i := 0) rfl) ?_
  simp only [qz]
  refine rg_move ?_
  simp only [qz]
  refine rf_load (v := .slice (some ⟨b', off', none⟩) vs.length c') rfl rfl rfl Try.underlying22 rfl (fun w hw => (Kn.hdB hw hV (by simp)).at (i := 0) rfl) ?_
  simp only [qz]
  refine rg_moveP ?_
  simp only [qz]
  refine rf_indexS (n := k) (sz := 5) (j := off' + k * 5) rfl rfl rfl rfl Try.underlying22 Kx Ox Ox rfl ?_
  simp only [qz]
  refine rf_loadC (n := 5) (vs := [.int .i64 (nm vs k).a, .int .i64 (nm vs k).b, .int .i64 (nm vs k).c, .int .i64 (nm vs k).d, .int .i64 (nm vs k).k]) rfl rfl rfl Try.underlying29 rfl Kx rfl (fun w hw => atN_range ((hcell' k Ox).kn hw hlt' (by simp))) ?_
  simp only [qz]
  apply rg_pure Rx Kx
  case hargs => exact Ax
  case h => exact fun w hw => at_any N i k xs a c hlx.out hN hi hk w (hA.kn0 hw)
  case hz => exact (fun _ h => by cases h; exact (sc _ (sc _ sn)))
  simp only [qz]
  refine rf_storeRM (n := 5) rfl rfl Kx rfl rfl (UpdR.there _ (UpdR.here _ _ _ Nl)) (sk _ (sk _ sn)) ?_
  simp only [qz, Nat.reduceAdd]
  refine rf_storeR (n := 5) rfl rfl Kx rfl rfl (UpdR.here _ _ _ Nl) (fun _ h => by cases h; exact (sk _ (sk _ sn))) ?_
  simp only [qz, Nat.reduceAdd]
  refine rg_nil (ek_next (wk_ret ?_))
  refine ek_ret (fun w hw => ⟨rfl, _, run_results_c2 rfl rfl (Kn.hd0 (Kn.tl hw)) Try.underlying29 rfl Kx rfl (Kn.hd0 hw) Try.underlying29 rfl Kx, ?_⟩)
  exact ⟨rfl, hw.below⟩

end Go.Proofs.Ytjeijnjaleldkaa
namespace Go.Proofs.Ytjeijnjaleldkaa
set_option linter.all false

/-- Partial sums. -/
def psum (f : Nat → Nm) : Nat → Nm
  | 0 => Nm.zero
  | n + 1 => (psum f n).addR (f n)
theorem ok_W {z : Nm} (h : z.Ok) : z.Fit 4611686018427387904 ∧ 0 ≤ z.k ∧ z.k ≤ 80 := ⟨Nm.fit_mono h.fit (by decide), h.k0, by have := h.k1; omega⟩
theorem psum_W {f : Nat → Nm} (hf : ∀ k, (f k).Ok) : ∀ n, n ≤ 6 → (psum f n).Fit (Fb n) ∧ 0 ≤ (psum f n).k ∧ (psum f n).k ≤ 80
  | 0, _ => by
    have := Fb_pos 0
    exact ⟨⟨by show -_ ≤ (0 : Int); omega, by show (0 : Int) ≤ _; omega, by show -_ ≤ (0 : Int); omega, by show (0 : Int) ≤ _; omega, by show -_ ≤ (0 : Int); omega, by show (0 : Int) ≤ _; omega, by show -_ ≤ (0 : Int); omega, by show (0 : Int) ≤ _; omega⟩, by show (0 : Int) ≤ 0; decide, by show (0 : Int) ≤ 80; decide⟩
  | n + 1, hn => by
    obtain ⟨h1, h2, h3⟩ := psum_W hf n (by omega)
    obtain ⟨p1, p2, p3⟩ := ok_W (hf n)
    obtain ⟨_, _, h4, h5, h6⟩ := addR_W h1 h2 h3 p1 p2 p3
    exact ⟨h4, h5, h6⟩
theorem psum_val {f : Nat → Nm} (hf : ∀ k, (f k).Ok) : ∀ n, n ≤ 6 → (psum f n).val = sumQ n fun k => (f k).val
  | 0, _ => val_zero
  | n + 1, hn => by
    show ((psum f n).addR (f n)).val = sumQ n _ + _
    rw [val_addR (psum_W hf n (by omega)).2.1 (hf n).k0, psum_val hf n (by omega)]
theorem psum_num {f : Nat → Nm} (hf : ∀ k, (f k).Ok) {n : Nat} (hn : n ≤ 6) (h : sumQ n (fun k => (f k).val) = 1) : wnum (psum f n) = (Nm.one, true) := by
  have := (wnum_iff (psum_W hf n hn).2.1 0 0).2 (by rw [psum_val hf n hn, h]; rfl)
  rw [this]; rfl
/-- The powers of a matrix: there is an error, 4, or they are these. -/
theorem li_pow {N : Nat} {xs : List Nm} (hv : validB N xs = true) : mapM powF N xs = .error 4 ∨ ∃ l, mapM powF N xs = .ok l ∧ validB N l = true ∧ ∀ i k, i < N → k < N → (nm l (i * N + k)).val = (nm xs (i * N + k)).val * Q4.conj (nm xs (i * N + k)).val := by
  obtain ⟨N', e, h1, h6, hlen, h36, hok⟩ := validB_true hv
  obtain rfl : N' = N := by omega
  unfold mapM
  rw [hv, if_pos rfl, Int.toNat_natCast]
  cases hg : madeR N' (powF N' xs) with
  | error c =>
    left
    obtain ⟨i, hi, he⟩ := gather_err_mem hg
    have : c = 4 := mk_err he
    rw [this]
  | ok l =>
    right
    refine ⟨l, rfl, made_valid h1 h6 hg fun i k z hi hk hz => (power_val (nm_okA hok _) hz).1, fun i k hi hk => ?_⟩
    exact (power_val (nm_okA hok _) (made_get hg hi hk)).2
theorem li_row {N : Nat} {xs l : List Nm} (hv : validB N xs = true) (hu : unB N xs = true) (hvl : validB N l = true) (ht : ∀ i k, i < N → k < N → (nm l (i * N + k)).val = (nm xs (i * N + k)).val * Q4.conj (nm xs (i * N + k)).val) {i : Nat} (hi : i < N) :
    wnum (psum (fun k => nm l (i * N + k)) N) = (Nm.one, true) ∧ wnum (psum (fun k => nm l (k * N + i)) N) = (Nm.one, true) := by
  obtain ⟨N', e, h1, h6, hlen, h36, hok⟩ := validB_true hvl
  obtain rfl : N' = N := by omega
  have hc := (unB_C hv).1 hu
  have hr := unR_of_unC hc
  have hd : dl i i = 1 := if_pos rfl
  constructor
  · refine psum_num (fun k => nm_okA hok _) h6 ?_
    rw [← hd, ← hr i i hi hi]
    exact sumQ_congr fun k hk => ht i k hi hk
  · refine psum_num (fun k => nm_okA hok _) h6 ?_
    rw [← hd, ← hc i i hi hi]
    exact sumQ_congr fun k hk => by rw [ht k i hk hi, Q4.mul_comm]; rfl
theorem appM_ok {N : Nat} {xs vs : List Nm} (hv : validB N xs = true) (h : rC (appM N xs vs) = 0) : ∃ l, appM N xs vs = .ok l ∧ vecB vs = true ∧ N = vs.length ∧ vecB l = true ∧ l.length = N ∧ ∀ i, i < N → (nm l i).val = sumQ N fun k => (nm xs (i * N + k)).val * (nm vs k).val := by
  unfold appM at h ⊢
  rw [hv] at h ⊢
  cases hv2 : vecB vs with
  | false => rw [hv2] at h; cases (show (20 : Int) = 0 from h)
  | true =>
  rw [hv2, Bool.and_self, if_pos rfl] at h
  obtain ⟨N', e, h1, h6, hlen, h36, hok⟩ := validB_true hv
  obtain rfl : N' = N := by omega
  obtain ⟨w1, w6, wok⟩ := vecB_y hv2
  by_cases hn : (N' : Int) = vs.length
  · rw [if_pos hn, Int.toNat_natCast] at h
    rw [Bool.and_self, if_pos rfl, if_pos hn, Int.toNat_natCast]
    have hvk : ∀ k, (nm vs k).Ok := nm_okA wok
    obtain ⟨l, hl⟩ : ∃ l, gather (appR N' xs vs) N' = .ok l := rC_gather (fun i c _ he => by have := prodsR_code he; omega) h
    have hll := gather_len hl
    have hlo : ∀ i, i < N' → (nm l i).Ok ∧ (nm l i).val = sumQ N' fun k => (nm xs (i * N' + k)).val * (nm vs k).val := fun i hi =>
      prodsR_val (fun _ => nm_okA hok _) hvk (gather_get hl i hi)
    refine ⟨l, hl, rfl, by omega, ?_, hll, fun i hi => (hlo i hi).2⟩
    unfold vecB
    simp only [Bool.and_eq_true, decide_eq_true_eq]
    exact ⟨by omega, by omega, allOk_true fun t ht => okB_iff.2 (hlo t (by omega)).1⟩
  · rw [if_neg hn] at h; cases (show (21 : Int) = 0 from h)
/-- Light keeps its length. -/
theorem li_len {N : Nat} {xs vs : List Nm} {x y : Nm} (hv : validB N xs = true) (hu : unB N xs = true) (h : rC (appM N xs vs) = 0) (hx : lenM vs = .ok x) (hy : lenM (rL (appM N xs vs)) = .ok y) : x = y := by
  obtain ⟨l, hl, hv2, hn, hvl, hll, ht⟩ := appM_ok hv h
  rw [hl] at hy
  change lenM l = .ok y at hy
  unfold lenM at hx hy
  rw [hv2, if_pos rfl] at hx
  rw [hvl, if_pos rfl, hll] at hy
  obtain ⟨-, -, wok⟩ := vecB_y hv2
  obtain ⟨-, -, lok⟩ := vecB_y hvl
  obtain ⟨ox, ex⟩ := lenR_val (fun k => nm_okA wok k) hx
  obtain ⟨oy, ey⟩ := lenR_val (fun k => nm_okA lok k) hy
  refine val_ok ox oy ?_
  rw [ex, ey, ← hn]
  have hc := (unB_C hv).1 hu
  rw [← un_light hc (fun k => (nm vs k).val)]
  exact (sumQ_congr fun i hi => by rw [ht i hi]; rfl).symm
theorem lenM_code {vs : List Nm} {c : Int} (h : lenM vs = .error c) : c ≠ 0 := by
  unfold lenM at h
  split at h
  · have := lenR_code h; omega
  · cases h; decide
theorem numV_ve3 {r : NR} (hr : ∀ c, r = .error c → c ≠ 0) : ∃ (v : Nm) (c : Int), numV r = .tuple #[nmV v, .int .i64 c] ∧ (c = 0 → r = .ok v) := by
  cases r with
  | ok v => exact ⟨v, 0, rfl, fun _ => rfl⟩
  | error c => exact ⟨Nm.zero, c, rfl, fun h => absurd h (hr c rfl)⟩
theorem appM_len9 (n : Int) (xs vs : List Nm) : (rL (appM n xs vs)).length ≤ 6 := by
  unfold appM
  cases hv : validB n xs with
  | false => exact Nat.zero_le _
  | true =>
    obtain ⟨N, rfl, h1, h2, h3, h4, h5⟩ := validB_true hv
    cases hv2 : vecB vs with
    | false => exact Nat.zero_le _
    | true =>
      rw [Bool.and_self, if_pos rfl]
      split
      · rw [Int.toNat_natCast]
        cases h : gather (appR N xs vs) N with
        | ok l => exact Nat.le_trans (Nat.le_of_eq (gather_len h)) h2
        | error c => exact Nat.zero_le _
      · exact Nat.zero_le _
end Go.Proofs.Ytjeijnjaleldkaa
namespace Go.Proofs.Ytjeijnjaleldkaa
set_option linter.all false
open Go.RowKit

def mulM (n m : Int) (xs ys : List Nm) : LR := if validB n xs && validB m ys then (if n = m then madeR n.toNat (mulF n.toNat xs ys) else .error 21) else .error 20
set_option maxRecDepth 100000 in
set_option maxHeartbeats 1000000 in
theorem mul_any (n m : Int) (xs ys : List Nm) (a a' : Option Addr) (c c' : Nat) (hl : xs.length ≤ 1000000) (hl' : ys.length ≤ 1000000) (w : World) (hA : AS w a (nms xs)) (hB : AS w a' (nms ys)) : Calls Try.prog 48 #[.agg #[.int .i64 n, .slice a xs.length c], .agg #[.int .i64 m, .slice a' ys.length c']] w fun e w' => RetM w (rN n.toNat (mulM n m xs ys)) (rL (mulM n m xs ys)) (rC (mulM n m xs ys)) e w' := by
  go_enter Try.func48, Try.ntmps48
  refine wk_start ?_
  refine wk_seq ?_
  refine wk_region [1, 1, 1, 0] rfl Kx ?_
  simp only [qy]
  refine Rgn fun g1 => ?_
  simp only [qz]
  refine Rgn fun g2 => ?_
  simp only [qz]
  refine Rgn fun g3 => ?_
  simp only [qz]
  refine rg_assign ?_
  simp only [qz]
  refine rg_nil (ek_next (wk_seq (wk_block (wk_seq ?_))))
  refine wk_region [0, 1, 0, 0, 0, 1, 0, 0, 0] rfl Kx ?_
  simp only [qy]
  refine rf_loadR (n := 2) rfl rfl rfl Try.underlying24 rfl Kx (fun w hw => Kn.hd0 (Kn.tl (Kn.tl hw))) rfl rfl ?_
  simp only [qz]
  apply rg_pureb Rx Kx
  case hargs => exact Ax
  case h => exact fun w hw => mvalid_any n xs a c hl w (hA.kn0 hw)
  case hz => exact Nz
  intro x h1
  cases x
  · (try simp only [qd, ne_eq] at h1)
    simp only [qz]
    refine rf_not rfl rfl rfl ?_
    simp only [qz]
    refine rg_move ?_
    simp only [qz]
    refine rg_skip Rx ?_
    simp only [qz]
    refine rg_skip_h Rx Nz ?_
    simp only [qz]
    refine rg_skip Rx ?_
    simp only [qz]
    refine rf_pick rfl rfl rfl ?_
    simp only [qz]
    refine rg_assign ?_
    simp only [qz]
    refine rg_nil (ek_next (wk_cond_t rfl (wk_seq ?_)))
    refine wk_region [0, 1, 0] rfl Kx ?_
    simp only [qy]
    refine rf_build (cs := fun a => #[.int .i64 0, .slice none 0 0]) rfl rfl Kx ?_
    simp only [qz]
    refine rf_storeR (n := 2) rfl rfl Kx rfl rfl (UpdR.here _ _ _ Nl) Nz ?_
    simp only [qz, Nat.reduceAdd]
    refine rg_assign ?_
    simp only [qz]
    refine rg_nil (ek_next (wk_ret (ek_block_ret (ek_then_ret ?_))))
    refine ek_ret (fun w hw => ⟨rfl, _, run_results2 rfl rfl (Kn.hd0 hw) Try.underlying24 rfl Kx, ?_⟩)
    (try simp only [qz])
    exact retM_err (c := 20) (by unfold mulM; rw [h1]; rfl) hw.below
  (try simp only [qd, ne_eq] at h1)
  simp only [qz]
  have hv := h1
  obtain ⟨N, rfl, hN1, hN, hlx, hlx36, hox⟩ := validB_N' hv
  replace hlx := Lib.hid hlx
  refine rf_not rfl rfl rfl ?_
  simp only [qz]
  refine rg_move ?_
  simp only [qz]
  refine rf_loadR (n := 2) rfl rfl rfl Try.underlying24 rfl Kx (fun w hw => Kn.hd0 (Kn.tl hw)) rfl rfl ?_
  simp only [qz]
  apply rg_pureb Rx Kx
  case hargs => exact Ax
  case h => exact fun w hw => mvalid_any m ys a' c' hl' w (hB.kn0 hw)
  case hz => exact Nz
  intro x h2
  cases x
  · (try simp only [qd, ne_eq] at h2)
    simp only [qz]
    refine rf_not rfl rfl rfl ?_
    simp only [qz]
    refine rf_pick rfl rfl rfl ?_
    simp only [qz]
    refine rg_assign ?_
    simp only [qz]
    refine rg_nil (ek_next (wk_cond_t rfl (wk_seq ?_)))
    refine wk_region [0, 1, 0] rfl Kx ?_
    simp only [qy]
    refine rf_build (cs := fun a => #[.int .i64 0, .slice none 0 0]) rfl rfl Kx ?_
    simp only [qz]
    refine rf_storeR (n := 2) rfl rfl Kx rfl rfl (UpdR.here _ _ _ Nl) Nz ?_
    simp only [qz, Nat.reduceAdd]
    refine rg_assign ?_
    simp only [qz]
    refine rg_nil (ek_next (wk_ret (ek_block_ret (ek_then_ret ?_))))
    refine ek_ret (fun w hw => ⟨rfl, _, run_results2 rfl rfl (Kn.hd0 hw) Try.underlying24 rfl Kx, ?_⟩)
    (try simp only [qz])
    exact retM_err (c := 20) (by unfold mulM; rw [h2, Bool.and_false]; rfl) hw.below
  (try simp only [qd, ne_eq] at h2)
  simp only [qz]
  have hv2 := h2
  obtain ⟨M, rfl, hM1, hM, hly, hly36, hoy⟩ := validB_N' hv2
  replace hly := Lib.hid hly
  refine rf_not rfl rfl rfl ?_
  simp only [qz]
  refine rf_pick rfl rfl rfl ?_
  simp only [qz]
  refine rg_assign ?_
  simp only [qz]
  refine rg_nil (ek_next (wk_cond_f rfl (wk_seq ?_)))
  refine wk_region [0, 0, 0, 0, 0, 0] rfl Kx ?_
  simp only [qy]
  refine rf_field (n := 0) (j := 0) rfl rfl rfl Try.underlying24 rfl Kx rfl ?_
  simp only [qz]
  refine rf_load rfl rfl rfl Try.underlying3 rfl (fun w hw => (Kn.hd0 (Kn.tl (Kn.tl hw))).at rfl) ?_
  simp only [qz]
  refine rf_field (n := 0) (j := 0) rfl rfl rfl Try.underlying24 rfl Kx rfl ?_
  simp only [qz]
  refine rf_load rfl rfl rfl Try.underlying3 rfl (fun w hw => (Kn.hd0 (Kn.tl hw)).at rfl) ?_
  simp only [qz]
  refine rfb_neq rfl rfl rfl rfl ?_
  intro x h3
  cases x
  · (try simp only [qd, ne_eq] at h3)
    simp only [qz]
    obtain rfl : N = M := by omega
    have hcp : mulM (N : Int) (N : Int) xs ys = madeR N (mulF N xs ys) := by (unfold mulM; rw [hv, hv2, Bool.and_self, if_pos rfl, if_pos rfl, Int.toNat_natCast])
    replace hcp := Lib.hid hcp
    refine rg_assign ?_
    simp only [qz]
    refine rg_nil (ek_next (wk_cond_f rfl (wk_skip (ek_block (ek_next ?_)))))
    refine wk_cutF [6, 7, 25, 26, 27, 28] (fun f s => ∃ (gx gy : Nat), f 6 = .pointer (some ⟨gx, 0, none⟩) ∧ f 7 = .pointer (some ⟨gy, 0, none⟩) ∧ s = ((gx, .cells #[.int .i64 N, .slice a xs.length c] 83) :: ((gy, .cells #[.int .i64 N, .slice a' ys.length c'] 83) :: ((g3, .cells #[.int .i64 0, .slice none 0 0] 24) :: ((g2, .cells #[.int .i64 N, .slice a' ys.length c'] 24) :: ((g1, .cells #[.int .i64 N, .slice a xs.length c] 24) :: [])))))) ?_ ?_
    · refine wk_rt _ Kx (sc _ (sc _ (sc _ sn))) ?_
      refine rt_soft (i := 0) rfl Kx (fun c d v a w h => by cases d <;> exact h) (sc _ (sc _ (sc _ sn))) ?_
      refine rf_loadR (n := 2) rfl rfl rfl Try.underlying24 rfl Kx (fun w hw => Kn.hd0 (Kn.tl (Kn.tl hw))) rfl rfl ?_
      simp only [qz]
      refine rg_nil ?_
      refine ek_rt (sc _ (sc _ (sc _ sn))) ?_
      refine rt_soft (i := 1) rfl Kx (fun c d v a w h => by cases d <;> exact h) (sc _ (sc _ (sc _ sn))) ?_
      refine rf_build (cs := fun a => #[cellAt (a.eval (.tmp 25)) 0, cellAt (a.eval (.tmp 25)) 1]) rfl rfl Kx ?_
      simp only [qz]
      refine rg_nil ?_
      refine ek_rt (sc _ (sc _ (sc _ sn))) ?_
      refine rt_soft (i := 2) rfl Kx (fun c d v a w h => by cases d <;> exact h) (sc _ (sc _ (sc _ sn))) ?_
      refine rf_loadR (n := 2) rfl rfl rfl Try.underlying24 rfl Kx (fun w hw => Kn.hd0 (Kn.tl hw)) rfl rfl ?_
      simp only [qz]
      refine rg_nil ?_
      refine ek_rt (sc _ (sc _ (sc _ sn))) ?_
      refine rt_soft (i := 3) rfl Kx (fun c d v a w h => by cases d <;> exact h) (sc _ (sc _ (sc _ sn))) ?_
      refine rf_build (cs := fun a => #[cellAt (a.eval (.tmp 27)) 0, cellAt (a.eval (.tmp 27)) 1]) rfl rfl Kx ?_
      simp only [qz]
      refine rg_nil ?_
      refine ek_rt (sc _ (sc _ (sc _ sn))) ?_
      refine rt_hard2 (i := 4) (j := 5) Kx rfl rfl ?_ ?_
      · refine rg_new (cs := ?_) (ty := ?_) Rx (fun w => ?_) (fun _ h => by cases h; exact (sc _ (sc _ (sc _ sn)))) (fun g4 => ?_); rotate_left 2
        focus (go_simp; rfl)
        simp only [qz]
        refine rg_nil ?_
        refine ek_rt (sk _ (sc _ (sc _ (sc _ sn)))) ?_
        refine rt_hard1 (i := 5) Kx rfl ?_
        refine rg_new (cs := ?_) (ty := ?_) Rx (fun w => ?_) (fun _ h => by cases h; exact (sk _ (sc _ (sc _ (sc _ sn))))) (fun g5 => ?_); rotate_left 2
        focus (go_simp; rfl)
        simp only [qz]
        refine rg_nil ?_
        refine ek_rt (sk _ (sk _ (sc _ (sc _ (sc _ sn))))) ?_
        refine rt_hard1 (i := 6) Kx rfl ?_
        refine rf_storeR (n := 2) rfl rfl Kx rfl rfl (UpdR.there _ (UpdR.here _ _ _ Nl)) (fun _ h => by cases h; exact (sk _ (sk _ (sc _ (sc _ (sc _ sn)))))) ?_
        simp only [qz, Nat.reduceAdd]
        refine rg_nil ?_
        refine ek_rt (sk _ (sk _ (sc _ (sc _ (sc _ sn))))) ?_
        refine rt_hard1 (i := 7) Kx rfl ?_
        refine rf_storeR (n := 2) rfl rfl Kx rfl rfl (UpdR.here _ _ _ Nl) (fun _ h => by cases h; exact (sk _ (sk _ (sc _ (sc _ (sc _ sn)))))) ?_
        simp only [qz, Nat.reduceAdd]
        refine rg_nil ?_
        refine ek_rt (sk _ (sk _ (sc _ (sc _ (sc _ sn))))) ?_
        refine rt_nil Kx ?_
        refine ek_perm (perm_at (l := [_]) (List.Perm.refl _)) ?_
        refine ek_midF Kx ?_
        exact ⟨g4, g5, rfl, rfl, by rfl⟩
      refine rg_new (cs := ?_) (ty := ?_) Rx (fun w => ?_) (fun _ h => by cases h; exact (sc _ (sc _ (sc _ sn)))) (fun g6 => ?_); rotate_left 2
      focus (go_simp; rfl)
      simp only [qz]
      refine rg_nil ?_
      refine ek_rt (sk _ (sc _ (sc _ (sc _ sn)))) ?_
      refine rt_hard1 (i := 4) Kx rfl ?_
      refine rg_new (cs := ?_) (ty := ?_) Rx (fun w => ?_) (fun _ h => by cases h; exact (sk _ (sc _ (sc _ (sc _ sn))))) (fun g7 => ?_); rotate_left 2
      focus (go_simp; rfl)
      simp only [qz]
      refine rg_nil ?_
      refine ek_rt (sk _ (sk _ (sc _ (sc _ (sc _ sn))))) ?_
      refine rt_hard1 (i := 6) Kx rfl ?_
      refine rf_storeR (n := 2) rfl rfl Kx rfl rfl (UpdR.here _ _ _ Nl) (fun _ h => by cases h; exact (sk _ (sk _ (sc _ (sc _ (sc _ sn)))))) ?_
      simp only [qz, Nat.reduceAdd]
      refine rg_nil ?_
      refine ek_rt (sk _ (sk _ (sc _ (sc _ (sc _ sn))))) ?_
      refine rt_hard1 (i := 7) Kx rfl ?_
      refine rf_storeR (n := 2) rfl rfl Kx rfl rfl (UpdR.there _ (UpdR.here _ _ _ Nl)) (fun _ h => by cases h; exact (sk _ (sk _ (sc _ (sc _ (sc _ sn)))))) ?_
      simp only [qz, Nat.reduceAdd]
      refine rg_nil ?_
      refine ek_rt (sk _ (sk _ (sc _ (sc _ (sc _ sn))))) ?_
      refine rt_nil Kx ?_
      refine ek_midF Kx ?_
      exact ⟨g7, g6, rfl, rfl, by rfl⟩
    rintro f1 s ⟨gx, gy, hs1_6, hs1_7, rfl⟩
    simp only [Act.putF, List.foldl_cons, List.foldl_nil, hs1_6, hs1_7, Act.put, Act.eval, q1, q2, q3, q4, q5, q6, q7, q8, q9, q10, q11, q12, q13, q14, q15, q16, q17, q18, Nat.reduceAdd, Bool.not_true, Bool.not_false]
    clear hs1_6 hs1_7
    refine wk_seq ?_
    refine wk_region [0, 0, 0, 1, 0, 0, 1, 0] rfl Kx ?_
    simp only [qy]
    refine rf_field (n := 0) (j := 0) rfl rfl rfl Try.underlying24 rfl Kx rfl ?_
    simp only [qz]
    refine rf_load rfl rfl rfl Try.underlying3 rfl (fun w hw => (Kn.hd0 (Kn.tl (Kn.tl (Kn.tl (Kn.tl hw))))).at rfl) ?_
    simp only [qz]
    apply rg_soft
    case hy => (intro w hw; go_simp; (try go_bits); exact Yld.mk _ _)
    simp only [qz]
    apply rg_retM Rx Kx
    case hargs => exact Ax
    case h => exact fun w hw => made_any N hN (mulF N xs ys) _ (fun i k c hi hk h => by have := prodsR_code h; omega) w ⟨_, _, _, rfl, by kernel_rfl, fun w' hb vs r ⟨i, k, hi, hk, hv, hr⟩ => by
        subst hv hr
        have h := mul1_any xs ys a a' c c' N hN hlx hly hox hoy i k g1 gx gy hi hk w' ((hA.kn0 hw).below hb) ((hB.kn0 hw).below hb) ((Kn.hd0 (Kn.tl (Kn.tl (Kn.tl (Kn.tl hw))))).belowS hb) ((Kn.hd0 hw).belowS hb) ((Kn.hd0 (Kn.tl hw)).belowS hb)
        simpa using h⟩
    case hz => exact Nz
    intro va9 vc9 u9 hO9
    simp only [qz]
    refine rf_extract rfl rfl rfl rfl ?_
    simp only [qz]
    refine rf_extract rfl rfl rfl rfl ?_
    simp only [qz]
    refine rf_storeR (n := 2) rfl rfl Kx rfl rfl (UpdR.app _ (UpdR.there _ (UpdR.there _ (UpdR.here _ _ _ Nl)))) Nz ?_
    simp only [qz, Nat.reduceAdd]
    refine rg_assign ?_
    simp only [qz]
    refine rg_nil (ek_next (wk_ret ?_))
    refine ek_ret (fun w hw => ⟨rfl, _, run_results2 rfl rfl (Kn.hd0 (Kn.tl (Kn.tl (Kn.tlU hw)))) Try.underlying24 rfl Kx, ?_⟩)
    (try simp only [qz])
    exact ⟨.slice va9 _ vc9, u9, by rw [hcp.out]; rfl, by rw [hcp.out]; exact hO9, hw.made (List.sublist_append_left _ _)⟩
  (try simp only [qd, ne_eq] at h3)
  simp only [qz]
  refine rg_assign ?_
  simp only [qz]
  refine rg_nil (ek_next (wk_cond_t rfl (wk_seq ?_)))
  refine wk_region [0, 1, 0] rfl Kx ?_
  simp only [qy]
  refine rf_build (cs := fun a => #[.int .i64 0, .slice none 0 0]) rfl rfl Kx ?_
  simp only [qz]
  refine rf_storeR (n := 2) rfl rfl Kx rfl rfl (UpdR.here _ _ _ Nl) Nz ?_
  simp only [qz, Nat.reduceAdd]
  refine rg_assign ?_
  simp only [qz]
  refine rg_nil (ek_next (wk_ret (ek_block_ret (ek_then_ret ?_))))
  refine ek_ret (fun w hw => ⟨rfl, _, run_results2 rfl rfl (Kn.hd0 hw) Try.underlying24 rfl Kx, ?_⟩)
  (try simp only [qz])
  exact retM_err (c := 21) (by unfold mulM; rw [hv, hv2, Bool.and_self, if_pos rfl, if_neg Ox]) hw.below

end Go.Proofs.Ytjeijnjaleldkaa
