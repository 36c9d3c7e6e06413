/- Package matrix: sums of products; the elements of a product. -/
import Derived.Test.YtccbinnlnkpplaaSq
import Derived.Test.YtccbinnlnkpplaaMt2a
import Derived.Test.YtccbinnlnkpplaaAlPl
import Derived.Test.YtccbinnlnkpplaaAm5
namespace Go.Proofs.Ytccbinnlnkpplaa
set_option linter.all false
open Go.RowKit

set_option maxRecDepth 100000 in
set_option maxHeartbeats 1000000 in
theorem products_any (n : Nat) (hn6 : n ≤ 6) (x y : Nat → Nm) (fv : Value) (hx : ∀ k, k < n → (x k).Ok) (hy : ∀ k, k < n → (y k).Ok) (w : World) (hF : FnV w fv (D1 n fun k => .tuple #[nmV (x k), nmV (y k)])) : Calls Try.prog 169 #[.int .i64 n, fv] w fun e w' => e = .returned (numV (prodsR x y n)) ∧ Below w.heap.size w w' := by
  go_enter Try.func169, Try.ntmps169
  refine wk_start ?_
  refine wk_seq ?_
  refine wk_region [1, 0] rfl Kx ?_
  simp only [qy]
  refine Rgn fun g1 => ?_
  simp only [qz]
  refine rg_assign ?_
  simp only [qz]
  refine rg_nil (ek_next (wk_seq ?_))
  refine wk_region [1] rfl Kx ?_
  simp only [qy]
  refine Rgn fun g2 => ?_
  simp only [qz]
  refine rg_nil (ek_next (wk_seq (wk_seq ?_)))
  refine wk_region [0, 0] rfl Kx ?_
  simp only [qy]
  refine rg_move ?_
  simp only [qz]
  refine rg_move ?_
  simp only [qz]
  refine rg_nil (ek_next (wk_block ?_))
  refine wk_loopF [5, 7, 8, 9, 10, 11, 13, 14, 15, 16, 17, 18, 19, 20, 21, 22, 23, 24, 25, 26, 27, 28, 29, 30, 31, 32, 33, 34, 35, 36, 37, 38, 39, 40, 41, 42] (fun mz f s => ∃ (k : Nat) (ac : Nm), f 13 = .int .i64 k ∧ s = ((g2, .cells #[.int .i64 ac.a, .int .i64 ac.b, .int .i64 ac.c, .int .i64 ac.d, .int .i64 ac.k] 45) :: ((g1, .cells #[.int .i64 0, .int .i64 0, .int .i64 0, .int .i64 0, .int .i64 0] 45) :: [])) ∧ mz = n - k ∧ k ≤ n ∧ Hid (prodsR x y k = .ok ac) ∧ ac.Ok) ((fun (k : Nat) (ac : Nm) => n - k) (0) (Nm.zero)) ?_ Kx ?_
  · exact ⟨0, Nm.zero, rfl, rfl, rfl, by omega, (Lib.hid rfl), zero_ok⟩
  rintro mz f1 s ⟨k, ac, hs1_13, rfl, hn, hd1, hd2, hd3⟩
  simp only [Act.putF, List.foldl_cons, List.foldl_nil, hs1_13, Act.put, Act.eval, q1, q2, q3, q4, q5, q6, q7, q8, q9, q10, q11, q12, q13, q14, q15, q16, q17, q18, Nat.reduceAdd, Bool.not_true, Bool.not_false]
  clear hs1_13
  refine wk_seq ?_
  refine wk_region [0] rfl Kx ?_
  simp only [qy]
  refine rfb_lss rfl rfl rfl rfl ?_
  intro x h1
  cases x
  · (try simp only [qd, ne_eq] at h1)
    simp only [qz]
    refine rg_nil (ek_next (wk_seq (wk_cond_f rfl (wk_exit (ek_then_exit (ek_then_exit (ek_block_exit (ek_next (wk_seq ?_)))))))))
    refine wk_region [0, 1, 0] rfl Kx ?_
    simp only [qy]
    refine rf_loadR (n := 5) rfl rfl rfl Try.underlying45 rfl Kx (fun w hw => Kn.hd0 hw) rfl rfl ?_
    simp only [qz]
    refine rf_storeR (n := 5) rfl rfl Kx rfl rfl (UpdR.there _ (UpdR.here _ _ _ Nl)) Nz ?_
    simp only [qz, Nat.reduceAdd]
    refine rg_assign ?_
    simp only [qz]
    refine rg_nil (ek_next (wk_ret ?_))
    refine ek_ret (fun w hw => ⟨rfl, _, run_results2 rfl rfl (Kn.hd0 (Kn.tl hw)) Try.underlying45 rfl Kx, ?_⟩)
    (try simp only [qz])
    obtain rfl : n = k := by omega
    exact ⟨by rw [hd2.out]; rfl, hw.below⟩
  (try simp only [qd, ne_eq] at h1)
  simp only [qz]
  refine rg_nil (ek_next (wk_seq (wk_cond_t rfl (wk_skip (ek_next (wk_seq (wk_block (wk_seq ?_))))))))
  refine wk_region [0, 0] rfl Kx ?_
  simp only [qy]
  refine rg_move ?_
  simp only [qz]
  refine rg_assign ?_
  simp only [qz]
  refine rg_nil (ek_next (wk_seq ?_))
  refine wk_region [0, 0, 1, 0, 0, 0, 1, 1, 1, 1] rfl Kx ?_
  simp only [qy]
  refine rg_move ?_
  simp only [qz]
  refine rg_move ?_
  simp only [qz]
  have hxk := hx k Ox
  have hyk := hy k Ox
  refine rg_fnv (.tuple #[nmV (x k), nmV (y k)]) Rx hF rfl (by simp only [qm, qs, Act.eval] <;> rfl) ⟨k, by omega, rfl, rfl⟩ Nz ?_
  simp only [qz]
  refine rg_move ?_
  simp only [qz]
  refine rf_extract rfl rfl rfl rfl ?_
  simp only [qz]
  refine rf_extract rfl rfl rfl rfl ?_
  simp only [qz]
  refine Rgn fun g3 => ?_
  simp only [qz]
  refine Rgn fun g4 => ?_
  simp only [qz]
  refine rf_storeR (n := 5) rfl rfl Kx rfl rfl (UpdR.there _ (UpdR.here _ _ _ Nl)) Nz ?_
  simp only [qz, Nat.reduceAdd]
  refine rf_storeR (n := 5) rfl rfl Kx rfl rfl (UpdR.here _ _ _ Nl) Nz ?_
  simp only [qz, Nat.reduceAdd]
  refine rg_nil (ek_next (wk_seq ?_))
  refine wk_region [0, 0, 1, 0, 0, 0, 1, 1, 0] rfl Kx ?_
  simp only [qy]
  refine rf_loadR (n := 5) rfl rfl rfl Try.underlying45 rfl Kx (fun w hw => Kn.hd0 (Kn.tl hw)) rfl rfl ?_
  simp only [qz]
  refine rf_loadR (n := 5) rfl rfl rfl Try.underlying45 rfl Kx (fun w hw => Kn.hd0 hw) rfl rfl ?_
  simp only [qz]
  apply rg_num Rx Kx
  case hargs => exact Ax
  case h => exact fun w hw => amMul_ok (x k) (y k) hxk hyk w
  case hz => exact Nz
  case hc => exact (fun c h => mk_err h)
  · intro hr2
    simp only [qz]
    refine rg_move ?_
    simp only [qz]
    refine rf_extract rfl rfl rfl rfl ?_
    simp only [qz]
    refine rf_extract rfl rfl rfl rfl ?_
    simp only [qz]
    refine Rgn fun g5 => ?_
    simp only [qz]
    refine rf_storeR (n := 5) rfl rfl Kx rfl rfl (UpdR.here _ _ _ Nl) Nz ?_
    simp only [qz, Nat.reduceAdd]
    refine rg_assign ?_
    simp only [qz]
    refine rg_nil (ek_next (wk_seq (wk_seq ?_)))
    refine wk_region [0, 0] rfl Kx ?_
    simp only [qy]
    refine rg_move ?_
    simp only [qz]
    refine rf_neq (b := true) rfl rfl rfl rfl (by decide) ?_
    simp only [qz]
    refine rg_nil (ek_next (wk_cond_t rfl (wk_seq ?_)))
    refine wk_region [0, 0, 1, 0] rfl Kx ?_
    simp only [qy]
    refine rf_build (cs := fun a => #[.int .i64 0, .int .i64 0, .int .i64 0, .int .i64 0, .int .i64 0]) rfl rfl Kx ?_
    simp only [qz]
    refine rg_move ?_
    simp only [qz]
    refine rf_storeR (n := 5) rfl rfl Kx rfl rfl (UpdR.there _ (UpdR.there _ (UpdR.there _ (UpdR.there _ (UpdR.here _ _ _ Nl))))) Nz ?_
    simp only [qz, Nat.reduceAdd]
    refine rg_assign ?_
    simp only [qz]
    refine rg_nil (ek_next (wk_ret (ek_then_ret (ek_block_ret (ek_then_ret (ek_then_ret (ek_block_ret (ek_then_ret ?_))))))))
    refine ek_ret (fun w hw => ⟨rfl, _, run_results2 rfl rfl (Kn.hd0 (Kn.tl (Kn.tl (Kn.tl (Kn.tl hw))))) Try.underlying45 rfl Kx, ?_⟩)
    (try simp only [qz])
    exact ⟨by rw [prodsR_err (k := k + 1) (c := 4) (by simp only [prodsR, hd2.out, hr2]) n Ox]; rfl, hw.below⟩
  intro z2 hr2
  simp only [qz]
  refine rg_move ?_
  simp only [qz]
  refine rf_extract rfl rfl rfl rfl ?_
  simp only [qz]
  refine rf_extract rfl rfl rfl rfl ?_
  simp only [qz]
  refine Rgn fun g6 => ?_
  simp only [qz]
  refine rf_storeR (n := 5) rfl rfl Kx rfl rfl (UpdR.here _ _ _ Nl) Nz ?_
  simp only [qz, Nat.reduceAdd]
  refine rg_assign ?_
  simp only [qz]
  refine rg_nil (ek_next (wk_seq (wk_seq ?_)))
  refine wk_region [0, 0] rfl Kx ?_
  simp only [qy]
  refine rg_move ?_
  simp only [qz]
  refine rf_neq (b := false) rfl rfl rfl rfl (by decide) ?_
  simp only [qz]
  refine rg_nil (ek_next (wk_cond_f rfl (wk_skip (ek_next (wk_seq ?_)))))
  refine wk_region [0, 0, 1, 0, 0, 0, 1, 0] rfl Kx ?_
  simp only [qy]
  refine rf_loadR (n := 5) rfl rfl rfl Try.underlying45 rfl Kx (fun w hw => Kn.hd0 (Kn.tl (Kn.tl (Kn.tl hw)))) rfl rfl ?_
  simp only [qz]
  refine rf_loadR (n := 5) rfl rfl rfl Try.underlying45 rfl Kx (fun w hw => Kn.hd0 hw) rfl rfl ?_
  simp only [qz]
  have hpk := (mk_ok (mulR_k hxk.k0 hyk.k0) hr2).1
  apply rg_num Rx Kx
  case hargs => exact Ax
  case h => exact fun w hw => amAdd_ok ac z2 hd3 hpk w
  case hz => exact Nz
  case hc => exact (fun c h => mk_err h)
  · intro hr3
    simp only [qz]
    refine rg_move ?_
    simp only [qz]
    refine rf_extract rfl rfl rfl rfl ?_
    simp only [qz]
    refine rf_extract rfl rfl rfl rfl ?_
    simp only [qz]
    refine rf_storeR (n := 5) rfl rfl Kx rfl rfl (UpdR.there _ (UpdR.there _ (UpdR.there _ (UpdR.here _ _ _ Nl)))) Nz ?_
    simp only [qz, Nat.reduceAdd]
    refine rg_assign ?_
    simp only [qz]
    refine rg_nil (ek_next (wk_seq ?_))
    refine wk_region [0, 0] rfl Kx ?_
    simp only [qy]
    refine rg_move ?_
    simp only [qz]
    refine rf_neq (b := true) rfl rfl rfl rfl (by decide) ?_
    simp only [qz]
    refine rg_nil (ek_next (wk_cond_t rfl (wk_seq ?_)))
    refine wk_region [0, 0, 1, 0] rfl Kx ?_
    simp only [qy]
    refine rf_build (cs := fun a => #[.int .i64 0, .int .i64 0, .int .i64 0, .int .i64 0, .int .i64 0]) rfl rfl Kx ?_
    simp only [qz]
    refine rg_move ?_
    simp only [qz]
    refine rf_storeR (n := 5) rfl rfl Kx rfl rfl (UpdR.there _ (UpdR.there _ (UpdR.there _ (UpdR.there _ (UpdR.here _ _ _ Nl))))) Nz ?_
    simp only [qz, Nat.reduceAdd]
    refine rg_assign ?_
    simp only [qz]
    refine rg_nil (ek_next (wk_ret (ek_block_ret (ek_then_ret (ek_then_ret (ek_block_ret (ek_then_ret ?_)))))))
    refine ek_ret (fun w hw => ⟨rfl, _, run_results2 rfl rfl (Kn.hd0 (Kn.tl (Kn.tl (Kn.tl (Kn.tl hw))))) Try.underlying45 rfl Kx, ?_⟩)
    (try simp only [qz])
    exact ⟨by rw [prodsR_err (k := k + 1) (c := 4) (by simp only [prodsR, hd2.out, hr2, hr3]) n Ox]; rfl, hw.below⟩
  intro z3 hr3
  simp only [qz]
  refine rg_move ?_
  simp only [qz]
  refine rf_extract rfl rfl rfl rfl ?_
  simp only [qz]
  refine rf_extract rfl rfl rfl rfl ?_
  simp only [qz]
  refine rf_storeR (n := 5) rfl rfl Kx rfl rfl (UpdR.there _ (UpdR.there _ (UpdR.there _ (UpdR.here _ _ _ Nl)))) Nz ?_
  simp only [qz, Nat.reduceAdd]
  refine rg_assign ?_
  simp only [qz]
  refine rg_nil (ek_next (wk_seq ?_))
  refine wk_region [0, 0] rfl Kx ?_
  simp only [qy]
  refine rg_move ?_
  simp only [qz]
  refine rf_neq (b := false) rfl rfl rfl rfl (by decide) ?_
  simp only [qz]
  refine rg_nil (ek_next (wk_cond_f rfl (wk_skip (ek_block (ek_next ?_)))))
  refine wk_region [0, 0] rfl Kx ?_
  simp only [qy]
  refine rf_add rfl rfl rfl rfl (wrap_ok Ox Ox) ?_
  simp only [qz]
  refine rg_move ?_
  simp only [qz]
  refine rg_nil ?_
  refine ek_sub (sk _ (sk _ (sk _ (sc _ (sc _ sn))))) ?_
  refine ek_roundF (n - (k + 1)) Ox Kx ?_
  exact ⟨k + 1, z3, rfl, by rfl, by rfl, Ox, (Lib.hid (by simp only [prodsR, hd2.out, hr2, hr3])), (mk_ok (addR_k hd3.k0) hr3).1⟩

set_option maxRecDepth 100000 in
set_option maxHeartbeats 1000000 in
theorem mul11_any (xs ys : List Nm) (a a' : Option Addr) (c c' : Nat) (N : Nat) (hN : N ≤ 6) (hlx : Hid (xs.length = N * N)) (hly : Hid (ys.length = N * N)) (i j k gx gi gy gk : Nat) (hi : i < N) (hj : j < N) (hk : k < N) (w : World) (hA : AS w a (nms xs)) (hB : AS w a' (nms ys)) (hX : Hd w gx 93 #[.int .i64 N, .slice a xs.length c]) (hY : Hd w gy 93 #[.int .i64 N, .slice a' ys.length c']) (hI : Hd w gi 3 #[.int .i64 i]) (hK : Hd w gk 3 #[.int .i64 k]) : Calls Try.prog 170 #[.int .i64 (j : Int), .pointer (some ⟨gx, 0, none⟩), .pointer (some ⟨gi, 0, none⟩), .pointer (some ⟨gy, 0, none⟩), .pointer (some ⟨gk, 0, none⟩)] w fun e w' => e = .returned (.tuple #[nmV (nm xs (i * N + j)), nmV (nm ys (j * N + k))]) ∧ Below w.heap.size w w' := by
  go_enter Try.func170, Try.ntmps170
  refine wk_start ?_
  refine wk_seq ?_
  refine wk_region [1, 1] rfl Kx ?_
  simp only [qy]
  refine Rgn fun g1 => ?_
  simp only [qz]
  refine Rgn fun g2 => ?_
  simp only [qz]
  refine rg_nil (ek_next (wk_seq ?_))
  refine wk_draws_m (hz1 := (sk _ (sk _ sn))) [(0, 0), (1, 0), (2, 0), (4, 3), (5, 3), (6, 3), (3, 1), (7, 1), (8, 2), (9, 1)] 8 Kx Kx (fun c d v a w h => by cases d <;> exact h) ?_
  simp only [List.map_cons, List.map_nil, List.getD_cons_zero, List.getD_cons_succ]
  refine rf_loadC (n := 2) (vs := [.int .i64 N, .slice a xs.length c]) rfl rfl rfl Try.underlying93 rfl Kx rfl (fun w hw => cells_range (Kn.hdB hw hX (by simp)) 0 2) ?_
  simp only [qz]
  refine rf_load (v := .int .i64 i) rfl rfl rfl Try.underlying3 rfl (fun w hw => (Kn.hdB hw hI (by simp)).at (i := 0) rfl) ?_
  simp only [qz]
  refine rg_move ?_
  simp only [qz]
  refine rf_loadC (n := 2) (vs := [.int .i64 N, .slice a' ys.length c']) rfl rfl rfl Try.underlying93 rfl Kx rfl (fun w hw => cells_range (Kn.hdB hw hY (by simp)) 0 2) ?_
  simp only [qz]
  refine rg_moveP ?_
  simp only [qz]
  refine rf_load (v := .int .i64 k) rfl rfl rfl Try.underlying3 rfl (fun w hw => (Kn.hdB hw hK (by simp)).at (i := 0) rfl) ?_
  simp only [qz]
  apply rg_pure Rx Kx
  case hargs => exact Ax
  case h => exact fun w hw => at_any N i j xs a c hlx.out hN hi hj w (hA.kn0 hw)
  case hz => exact (fun _ h => by cases h; exact (sc _ (sc _ sn)))
  simp only [qz]
  apply rg_pure Rx Kx
  case hargs => exact Ax
  case h => exact fun w hw => at_any N j k ys a' c' hly.out hN hj hk w (hB.kn0 hw)
  case hz => exact (fun _ h => by cases h; exact (sc _ (sc _ sn)))
  simp only [qz]
  refine rf_storeRM (n := 5) rfl rfl Kx rfl rfl (UpdR.there _ (UpdR.here _ _ _ Nl)) (sk _ (sk _ sn)) ?_
  simp only [qz, Nat.reduceAdd]
  refine rf_storeR (n := 5) rfl rfl Kx rfl rfl (UpdR.here _ _ _ Nl) (fun _ h => by cases h; exact (sk _ (sk _ sn))) ?_
  simp only [qz, Nat.reduceAdd]
  refine rg_nil (ek_next (wk_ret ?_))
  refine ek_ret (fun w hw => ⟨rfl, _, run_results_c2 rfl rfl (Kn.hd0 (Kn.tl hw)) Try.underlying45 rfl Kx rfl (Kn.hd0 hw) Try.underlying45 rfl Kx, ?_⟩)
  exact ⟨rfl, hw.below⟩

def mulF (N : Nat) (xs ys : List Nm) (i k : Nat) : NR := prodsR (fun j => nm xs (i * N + j)) (fun j => nm ys (j * N + k)) N
theorem ek_rfl_num {r : NR} {v : Nm} {c : Int} (h : numV r = .tuple #[nmV v, .int .i64 c]) : Ending.returned (.tuple #[nmV v, .int .i64 c]) = .returned (numV r) := by rw [h]
set_option maxRecDepth 100000 in
set_option maxHeartbeats 1000000 in
theorem mul1_any (xs ys : List Nm) (a a' : Option Addr) (c c' : Nat) (N : Nat) (hN : N ≤ 6) (hlx : Hid (xs.length = N * N)) (hly : Hid (ys.length = N * N)) (hox : allOk xs = true) (hoy : allOk ys = true) (i k gm gx gy : Nat) (hi : i < N) (hk : k < N) (w : World) (hA : AS w a (nms xs)) (hB : AS w a' (nms ys)) (hM : Hd w gm 38 #[.int .i64 N, .slice a xs.length c]) (hX : Hd w gx 93 #[.int .i64 N, .slice a xs.length c]) (hY : Hd w gy 93 #[.int .i64 N, .slice a' ys.length c']) : Calls Try.prog 168 #[.int .i64 (i : Int), .int .i64 (k : Int), .pointer (some ⟨gm, 0, none⟩), .pointer (some ⟨gx, 0, none⟩), .pointer (some ⟨gy, 0, none⟩)] w fun e w' => e = .returned (numV (mulF N xs ys i k)) ∧ Below w.heap.size w w' := by
  go_enter Try.func168, Try.ntmps168
  refine wk_start ?_
  refine wk_seq ?_
  refine wk_region [1, 1, 1, 0] rfl Kx ?_
  simp only [qy]
  refine Rgn fun g1 => ?_
  simp only [qz]
  refine Rgn fun g2 => ?_
  simp only [qz]
  refine Rgn fun g3 => ?_
  simp only [qz]
  refine rg_assign ?_
  simp only [qz]
  refine rg_nil (ek_next (wk_seq ?_))
  refine wk_region [0, 0, 0, 1, 0, 0, 1, 0] rfl Kx ?_
  simp only [qy]
  apply rg_soft
  case hy => (intro w hw; go_simp; (try go_bits); exact Yld.mk _ _)
  simp only [qz]
  refine rf_load (v := .int .i64 N) rfl rfl rfl Try.underlying3 rfl (fun w hw => (Kn.hdB hw hM (by simp)).at (i := 0) rfl) ?_
  simp only [qz]
  apply rg_soft
  case hy => (intro w hw; go_simp; (try go_bits); exact Yld.mk _ _)
  simp only [qz]
  apply rg_pure Rx Kx
  case hargs => exact Ax
  case h => exact fun w hw => products_any N hN (fun j => nm xs (i * N + j)) (fun j => nm ys (j * N + k)) _ (fun j hj => elemOk hox hlx.out hi hj) (fun j hj => elemOk hoy hly.out hj hk) w ⟨_, _, _, rfl, by kernel_rfl, fun w' hb vs r ⟨j, hj, hv, hr⟩ => by
      subst hv hr
      have h := mul11_any xs ys a a' c c' N hN hlx hly i j k gx g1 gy g2 hi hj hk w' ((hA.kn0 hw).below hb) ((hB.kn0 hw).below hb) ((Kn.hdB hw hX (by simp)).belowS hb) ((Kn.hdB hw hY (by simp)).belowS hb) ((Kn.hd0 (Kn.tl (Kn.tl hw))).belowS hb) ((Kn.hd0 (Kn.tl hw)).belowS hb)
      simpa using h⟩
  case hz => exact Nz
  simp only [qz]
  obtain ⟨v, e, hve⟩ := numV_ve2 (prodsR (fun j => nm xs (i * N + j)) (fun j => nm ys (j * N + k)) N)
  rw [hve]
  replace hve := Lib.hid hve
  refine rf_extract rfl rfl rfl rfl ?_
  simp only [qz]
  refine rf_extract rfl rfl rfl rfl ?_
  simp only [qz]
  refine rf_storeR (n := 5) rfl rfl Kx rfl rfl (UpdR.here _ _ _ Nl) Nz ?_
  simp only [qz, Nat.reduceAdd]
  refine rg_assign ?_
  simp only [qz]
  refine rg_nil (ek_next (wk_ret ?_))
  refine ek_ret (fun w hw => ⟨rfl, _, run_results2 rfl rfl (Kn.hd0 hw) Try.underlying45 rfl Kx, ?_⟩)
  (try simp only [qz])
  exact ⟨(congrArg Ending.returned hve.out).symm, hw.below⟩

end Go.Proofs.Ytccbinnlnkpplaa
